/- Accounts of this seat's functions: lemmas, no statement of their own. No conditions. -/
import Derived.Test.YtejcjdhplpjpjaaTQa
namespace Go.Proofs.Ytejcjdhplpjpjaa
open Go Go.Vx
noncomputable abbrev gw : Ctx := gk.add [(38, F38)]
theorem gw_ok : CtxU gw := gk_ok.add mixed noGo (by
  intro x hx
  simp only [List.mem_cons, List.not_mem_nil, or_false] at hx
  rcases hx with rfl
  exact Acc.of rfl rfl acc38)
/-! ### Write: whole blocks -/
abbrev n43 (a : Nat → Int) : Nat → Int := atL (listF 43 a 0)
abbrev tkA (a : Nat → Int) (b : List Int) : Nat → Int := setS (plusN (byL (n43 a)) (smL (n43 a)) (b ++ [1])) (n43 a)
noncomputable def lpA (a : Nat → Int) (l : List Int) : Nat → (Nat → Int)
  | 0 => a
  | i + 1 => tkA (lpA a l i) ((l.drop (16 * i)).take 16)
abbrev wrKeep : List Nat := [0, 1]
noncomputable abbrev wrBody : Code := bodyAt Try.prog 12 8
abbrev lbR (l : List Int) : List Int := listF 16 (fun j => ((l.drop 0).take 16).getD j 0) 0
theorem wr_go0 (a : Nat → Int) (l : List Int) : runC gw 300 102 [.br true] wrBody (wrKeep.zip [.ptr 0 0, .roi .u8 l]) [macV nilR a] wrKeep [0] =
    some (.normal, [.ptr 0 0, .roi .u8 ((l.drop 16).take (l.length - 16))], [macV nilR (tkA a (lbR l))].map some,
      [Fits .i64 (l.length : Int), decide ((16 : Int) ≤ (l.length : Int)) = true, 16 ≤ ((l.drop 0).take 16).length, (0 : Int) ≤ 0 ∧ (0 : Int) ≤ 16 ∧ (16 : Int) ≤ (l.length : Int), (0 : Int) ≤ 16 ∧ (16 : Int) ≤ (l.length : Int) ∧ (l.length : Int) ≤ (l.length : Int)]) :=
  r3_parts4 (by kernel_rfl) (by kernel_rfl) (by kernel_rfl) (by kernel_rfl)
theorem wr_end0 (a : Nat → Int) (l : List Int) : runC gw 300 102 [.br false] wrBody (wrKeep.zip [.ptr 0 0, .roi .u8 l]) [macV nilR a] wrKeep [0] =
    some (.exit 0, [.ptr 0 0, .roi .u8 l], [macV nilR a].map some, [Fits .i64 (l.length : Int), decide ((16 : Int) ≤ (l.length : Int)) = false]) :=
  r3_parts4 (by kernel_rfl) (by kernel_rfl) (by kernel_rfl) (by kernel_rfl)
theorem lbR_eq {l : List Int} (h : 16 ≤ l.length) : lbR l = l.take 16 := by
  refine extI (by rw [listF_length, List.length_take]; omega) fun p hp => ?_
  rw [listF_length] at hp
  have : (lbR l).getD p 0 = ((l.drop 0).take 16).getD p 0 := atLF hp
  rw [this, List.drop_zero]
abbrev lpS0 (l : List Int) (i : Nat) : List (Nat × SV) := wrKeep.zip [.ptr 0 0, .roi .u8 (l.drop (16 * i))]
noncomputable def lpG : LoopF := fun vals B => match vals, B with
  | [.ptr 0 0, .roi K l], [.cells ms] => match macAs ms, headK (ms.take 1), sameK K .u8 with
    | some la, .nil, true => some ([(0, .ptr 0 0), (1, .roi .u8 (l.drop (16 * (l.length / 16))))], [macV nilR (lpA (atL la) l (l.length / 16))], [l.length ≤ 140737488355328])
    | _, _, _ => none
  | _, _ => none
theorem q0 : ∀ j : Nat, j < 1 → ([0] : List Nat)[j]? = some j := fun j hj => by
  match j, hj with
  | 0, _ => rfl
theorem lp_sim {w0 : World} {O : Go.Vx.Own} (hgl : GlobOk gw w0 O) (a : Nat → Int) (l : List Int) (hl : l.length ≤ 140737488355328) :
    SimC gw.P w0 O 102 (.loop wrBody) (lpS0 l 0) [macV nilR (lpA a l 0)] (.exit 0) [(0, .ptr 0 0), (1, .roi .u8 (l.drop (16 * (l.length / 16))))] [macV nilR (lpA a l (l.length / 16))] 1 := by
  refine SimC.iter (g := gw) (e := .exit 0) (S := fun i => lpS0 l i) (B := fun i => [macV nilR (lpA a l i)]) (N := l.length / 16) (fun i hi => ?_) ?_ (by simp) 0 (by omega)
  · have hd : (l.drop (16 * i)).length = l.length - 16 * i := by rw [List.length_drop]
    have h16 : 16 ≤ (l.drop (16 * i)).length := by omega
    have F : Fits .i64 ((l.drop (16 * i)).length : Int) := Go.Vx.fits_small (by omega)
    have hr := wr_go0 (lpA a l i) (l.drop (16 * i))
    have e : (((l.drop (16 * i)).drop 16).take ((l.drop (16 * i)).length - 16)) = l.drop (16 * (i + 1)) := by
      rw [List.drop_drop, hd, List.take_of_length_le (by rw [List.length_drop]; omega), show 16 * i + 16 = 16 * (i + 1) by omega]
    rw [e, lbR_eq h16] at hr
    refine SimC.run (B' := [macV nilR (lpA a l (i + 1))]) gw_ok (by decide) hr ?_ (by decide) q0 (by decide) (by simp) hgl
    simp only [allC_cons, allC_nil, and_true]
    exact ⟨F, decide_eq_true (by omega), by rw [List.drop_zero, List.length_take]; omega, ⟨by omega, by omega, by omega⟩, ⟨by omega, by omega, by omega⟩⟩
  · have hd : (l.drop (16 * (l.length / 16))).length = l.length - 16 * (l.length / 16) := by rw [List.length_drop]
    have F : Fits .i64 ((l.drop (16 * (l.length / 16))).length : Int) := Go.Vx.fits_small (by omega)
    exact SimC.weaken (SimC.run (B' := [macV nilR (lpA a l (l.length / 16))]) gw_ok (by decide) (wr_end0 _ _) (by simp only [allC_cons, allC_nil, and_true]; exact ⟨F, decide_eq_false (by omega)⟩) (by decide) q0 (by decide) (by simp) hgl) (sub_mkT (by simp; exact ⟨rfl, rfl⟩))
theorem lp_loop : LoopGood gw 102 (.loop wrBody) wrKeep 1 (.exit 0) (mkLoopN lpG) := by
  refine LoopGood.mkN (by decide) fun vals B S' B' C hG hC hlen w0 O hgl => ?_
  clear hlen
  unfold lpG at hG
  split at hG
  · rename_i K l ms
    split at hG
    · rename_i la ha hr hK
      obtain rfl := kidx_inj hK
      have hr := head_nil hr
      simp only [Option.some.injEq, Prod.mk.injEq] at hG
      obtain ⟨rfl, rfl, rfl⟩ := hG
      simp only [allC_cons, allC_nil, and_true] at hC
      refine SimC.preI (B1 := [macV nilR (atL la)]) ?_ ⟨cells_mac ha hr rfl, trivial⟩
      exact lp_sim hgl (atL la) l hC
    · simp at hG
  · simp at hG
/-! ### Write: the whole -/
def ovA (a : Nat → Int) (l : List Int) (j : Nat) : Int :=
  bif (Nat.ble 26 j).and (Nat.blt j 42) then (if (a 42).toNat ≤ j - 26 ∧ j - 26 < (a 42).toNat + (l.take (16 - (a 42).toNat)).length then (l.take (16 - (a 42).toNat)).getD (j - 26 - (a 42).toNat) 0 else a j)
  else bif Nat.beq j 42 then a 42 + ((min l.length (16 - (a 42).toNat) : Nat) : Int) else a j
def tlA (a : Nat → Int) (p : List Int) (j : Nat) : Int :=
  bif (Nat.ble 26 j).and (Nat.blt j 42) then (if 0 ≤ j - 26 ∧ j - 26 < 0 + (p.take 16).length then (p.take 16).getD (j - 26 - 0) 0 else a j)
  else bif Nat.beq j 42 then ((min p.length 16 : Nat) : Int) else a j
def clA (a : Nat → Int) (j : Nat) : Int := bif Nat.ble 26 j then 0 else a j
abbrev kN (a : Nat → Int) (l : List Int) : Int := ((min l.length (16 - (a 42).toNat) : Nat) : Int)
abbrev l1 (a : Nat → Int) (l : List Int) : List Int := (l.drop (kN a l).toNat).take (l.length - (kN a l).toNat)
abbrev rsL (l : List Int) : List Int := l.drop (16 * (l.length / 16))
noncomputable abbrev wrPl : Plan := .loop 8 wrKeep 1 (.exit 0) (mkLoopN lpG)
noncomputable abbrev LGw : Prop := LoopGood gw 102 (.loop wrBody) wrKeep 1 (.exit 0) (mkLoopN lpG)
end Go.Proofs.Ytejcjdhplpjpjaa
