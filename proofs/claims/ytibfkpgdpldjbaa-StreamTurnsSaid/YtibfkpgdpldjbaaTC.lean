/- Accounts of this seat's functions: lemmas, no statement of their own. No conditions. -/
import Derived.Test.YtibfkpgdpldjbaaV4
import Derived.Test.YtibfkpgdpldjbaaTB
namespace Go.Proofs.Ytibfkpgdpldjbaa
open Go Go.Vx
/-! ### a quarter -/
def rotl (n : Int) (m : Int) (x : Int) : Int := uor (ushl .u32 x n) (ushr x m)
def qa (a b c d : Int) : Int := let a1 := uadd .u32 a b; let d1 := rotl 16 16 (uxor d a1); let c1 := uadd .u32 c d1; let b1 := rotl 12 20 (uxor b c1); uadd .u32 a1 b1
def qd (a b c d : Int) : Int := let a1 := uadd .u32 a b; let d1 := rotl 16 16 (uxor d a1); rotl 8 24 (uxor d1 (qa a b c d))
def qc (a b c d : Int) : Int := let a1 := uadd .u32 a b; let d1 := rotl 16 16 (uxor d a1); let c1 := uadd .u32 c d1; uadd .u32 c1 (qd a b c d)
def qb (a b c d : Int) : Int := let a1 := uadd .u32 a b; let d1 := rotl 16 16 (uxor d a1); let c1 := uadd .u32 c d1; let b1 := rotl 12 20 (uxor b c1); rotl 7 25 (uxor b1 (qc a b c d))
theorem qr_run (a b c d : Int) : runF g1 60 [] 41 [.int .u32 a, .int .u32 b, .int .u32 c, .int .u32 d] [] [] =
    some (.tuple [.int .u32 (qa a b c d), .int .u32 (qb a b c d), .int .u32 (qc a b c d), .int .u32 (qd a b c d)], [], []) := by kernel_rfl
def F41 : SumF := fun args B => match args, B with
  | [.int .u32 a, .int .u32 b, .int .u32 c, .int .u32 d], [] => some { val := .tuple [.int .u32 (qa a b c d), .int .u32 (qb a b c d), .int .u32 (qc a b c d), .int .u32 (qd a b c d)] }
  | _, _ => none
theorem acc41 : Acc g1 41 F41 := by
  intro args B out h hC
  unfold F41 at h
  split at h
  · simp only [Option.some.injEq] at h; subst h
    exact FnOk.pure g1_ok (qr_run _ _ _ _) (by simp [AllC])
  · simp at h
def wd (a b c d : Int) : Int := uor (uor (uor a (ushl .u32 b 8)) (ushl .u32 c 16)) (ushl .u32 d 24)
theorem wd_run (a b c d : Int) : runF g1 60 [] 38 [.int .u8 a, .int .u8 b, .int .u8 c, .int .u8 d] [] [] = some (.int .u32 (wd a b c d), [], []) := by kernel_rfl
def F38 : SumF := fun args B => match args, B with
  | [.int .u8 a, .int .u8 b, .int .u8 c, .int .u8 d], [] => some { val := .int .u32 (wd a b c d) }
  | _, _ => none
theorem acc38 : Acc g1 38 F38 := by
  intro args B out h hC
  unfold F38 at h
  split at h
  · simp only [Option.some.injEq] at h; subst h
    exact FnOk.pure g1_ok (wd_run _ _ _ _) (by simp [AllC])
  · simp at h
noncomputable abbrev g2 : Ctx := g1.add [(38, F38), (41, F41)]
theorem g2_ok : CtxU g2 := g1_ok.add mixed noGo (by
  intro x hx
  simp only [List.mem_cons, List.not_mem_nil, or_false] at hx
  rcases hx with rfl | rfl
  · exact acc38
  · exact acc41)
/-! ### a block -/
def dr (x : Nat → Int) : Nat → Int :=
  let y := atL [qa (x 0) (x 4) (x 8) (x 12), qa (x 1) (x 5) (x 9) (x 13), qa (x 2) (x 6) (x 10) (x 14), qa (x 3) (x 7) (x 11) (x 15),
    qb (x 0) (x 4) (x 8) (x 12), qb (x 1) (x 5) (x 9) (x 13), qb (x 2) (x 6) (x 10) (x 14), qb (x 3) (x 7) (x 11) (x 15),
    qc (x 0) (x 4) (x 8) (x 12), qc (x 1) (x 5) (x 9) (x 13), qc (x 2) (x 6) (x 10) (x 14), qc (x 3) (x 7) (x 11) (x 15),
    qd (x 0) (x 4) (x 8) (x 12), qd (x 1) (x 5) (x 9) (x 13), qd (x 2) (x 6) (x 10) (x 14), qd (x 3) (x 7) (x 11) (x 15)]
  atL [qa (y 0) (y 5) (y 10) (y 15), qa (y 1) (y 6) (y 11) (y 12), qa (y 2) (y 7) (y 8) (y 13), qa (y 3) (y 4) (y 9) (y 14),
    qb (y 3) (y 4) (y 9) (y 14), qb (y 0) (y 5) (y 10) (y 15), qb (y 1) (y 6) (y 11) (y 12), qb (y 2) (y 7) (y 8) (y 13),
    qc (y 2) (y 7) (y 8) (y 13), qc (y 3) (y 4) (y 9) (y 14), qc (y 0) (y 5) (y 10) (y 15), qc (y 1) (y 6) (y 11) (y 12),
    qd (y 1) (y 6) (y 11) (y 12), qd (y 2) (y 7) (y 8) (y 13), qd (y 3) (y 4) (y 9) (y 14), qd (y 0) (y 5) (y 10) (y 15)]
def drN : Nat → (Nat → Int) → Nat → Int
  | 0, x => x
  | n + 1, x => dr (drN n x)
noncomputable abbrev w16 (x : Nat → Int) : List SV := svF (List.replicate 16 .u32) x 0
abbrev onKeep : List Nat := [1, 2, 3, 9]
noncomputable abbrev onBody : Code := bodyAt Try.prog 30 3
abbrev onS (i : Nat) : List (Nat × SV) := onKeep.zip [.ptr 0 0, .ptr 1 0, .ptr 2 0, .int .i64 (i : Int)]
noncomputable abbrev b64 (x : Nat → Int) : List SV := svF (List.replicate 64 .u8) x 0
noncomputable abbrev onB (s o x : Nat → Int) : List Body := [.cells (w16 s), .cells (b64 o), .cells (w16 x)]
theorem on_go (i : Nat) (s o x : Nat → Int) : runC g2 300 182 [.br true] onBody (onS i) (onB s o x) onKeep [0, 1, 2] =
    some (.normal, [.ptr 0 0, .ptr 1 0, .ptr 2 0, .int .i64 ((i : Int) + 1)], (onB s o (dr x)).map some, [decide ((i : Int) < 10) = true, Fits .i64 ((i : Int) + 1)]) := by kernel_rfl
theorem on_end (i : Nat) (s o x : Nat → Int) : runC g2 300 182 [.br false] onBody (onS i) (onB s o x) onKeep [0, 1, 2] =
    some (.exit 0, [.ptr 0 0, .ptr 1 0, .ptr 2 0, .int .i64 (i : Int)], (onB s o x).map some, [decide ((i : Int) < 10) = false]) := by kernel_rfl
noncomputable def onG : LoopF := fun vals B => match vals, B with
  | [.ptr 0 0, .ptr 1 0, .ptr 2 0, .int .i64 0], [.cells ss, .cells oo, .cells xs] => match numsAs (List.replicate 16 .u32) ss, numsAs (List.replicate 64 .u8) oo, numsAs (List.replicate 16 .u32) xs with
    | some ls, some lo, some lx => some ([(1, .ptr 0 0), (2, .ptr 1 0), (3, .ptr 2 0)], onB (atL ls) (atL lo) (drN 10 (atL lx)), [])
    | _, _, _ => none
  | _, _ => none
theorem i3 : ∀ j : Nat, j < 3 → ([0, 1, 2] : List Nat)[j]? = some j := fun j hj => by
  match j, hj with
  | 0, _ => rfl
  | 1, _ => rfl
  | 2, _ => rfl
theorem on_loop : LoopGood g2 182 (.loop onBody) onKeep 3 (.exit 0) (mkLoopN onG) := by
  refine LoopGood.mkN (by decide) fun vals B S' B' C hG hC hlen w0 O hgl => ?_
  clear hlen
  unfold onG at hG
  split at hG
  · rename_i ss oo xs
    split at hG
    · rename_i ls lo lx hs ho hx
      simp only [Option.some.injEq, Prod.mk.injEq] at hG
      obtain ⟨rfl, rfl, rfl⟩ := hG
      refine SimC.preI (B1 := onB (atL ls) (atL lo) (atL lx)) ?_ ⟨cells_nums hs, cells_nums ho, cells_nums hx, trivial⟩
      refine SimC.iter (g := g2) (S := onS) (B := fun i => onB (atL ls) (atL lo) (drN i (atL lx))) (N := 10) (fun i hi => ?_) ?_ (by simp) 0 (by omega)
      · have F : Fits .i64 ((i : Int) + 1) := fits_of (by omega) (by omega)
        exact SimC.run (B' := onB (atL ls) (atL lo) (drN (i + 1) (atL lx))) g2_ok (by decide) (on_go i _ _ _) (by (simp only [allC_cons, allC_nil, and_true]; repeat' (with_reducible (first | refine And.intro ?_ ?_ | exact True.intro | assumption | omega | exact decide_eq_true (by first | assumption | omega) | exact decide_eq_false (by first | assumption | omega) | rfl | (simp; done))))) (by decide) i3 (by decide) (by simp) hgl
      · exact SimC.weaken (SimC.run (B' := onB (atL ls) (atL lo) (drN 10 (atL lx))) g2_ok (by decide) (on_end 10 _ _ _) (by (simp only [allC_cons, allC_nil, and_true]; repeat' (with_reducible (first | refine And.intro ?_ ?_ | exact True.intro | assumption | omega | exact decide_eq_true (by first | assumption | omega) | exact decide_eq_false (by first | assumption | omega) | rfl | (simp; done))))) (by decide) i3 (by decide) (by simp) hgl) (sub_mkT (by simp; exact ⟨rfl, rfl, rfl⟩))
    · simp at hG
  · simp at hG
/-- a block's bytes -/
def blk (s : Nat → Int) (j : Nat) : Int := ucut .u8 (ushr (uadd .u32 (drN 10 s (j / 4)) (s (j / 4))) (8 * (j % 4) : Nat))
theorem one_run (s : Nat → Int) : runF g2 2000 [.loop 3 onKeep 3 (.exit 0) (mkLoopN onG)] 30 [.agg (w16 s)] [] [] =
    some (.agg (b64 (blk (atL (listF 16 s 0)))), [], [LoopGood g2 182 (.loop onBody) onKeep 3 (.exit 0) (mkLoopN onG)]) := by kernel_rfl
theorem listF_nums {ks : List IntKind} {cs : List SV} {ns : List Int} {n : Nat} (hn : ks.length = n) (h : numsAs ks cs = some ns) : listF n (atL ns) 0 = ns := by
  rw [← hn]; exact (nums_list h).symm
noncomputable def F30 : SumF := fun args B => match args, B with
  | [.agg xs], [] => match numsAs (List.replicate 16 .u32) xs with
    | some ls => some { val := .agg (b64 (blk (atL ls))) }
    | none => none
  | _, _ => none
theorem acc30 : Acc g2 30 F30 := by
  intro args B out h hC
  unfold F30 at h
  split at h
  · rename_i xs
    split at h
    · rename_i ls hx
      simp only [Option.some.injEq] at h; subst h
      refine FnOk.imp (args' := [.agg (w16 (atL ls))]) ?_ ⟨nums_imp hx, trivial⟩
      have hr := one_run (atL ls)
      rw [listF_nums (n := 16) rfl hx] at hr
      have hl := on_loop
      exact FnOk.pure g2_ok hr (by (simp only [allC_cons, allC_nil, and_true]; repeat' (with_reducible (first | refine And.intro ?_ ?_ | exact True.intro | assumption | omega | exact decide_eq_true (by first | assumption | omega) | exact decide_eq_false (by first | assumption | omega) | rfl | (simp; done)))))
    · simp at h
  · simp at h
end Go.Proofs.Ytibfkpgdpldjbaa
