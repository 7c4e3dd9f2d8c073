/- Accounts of this seat's functions: lemmas, no statement of their own. No conditions. -/
import Derived.Test.YtibfkpgdpldjbaaTC
namespace Go.Proofs.Ytibfkpgdpldjbaa
open Go Go.Vx
/-! ### the state -/
def stt (k : Nat → Int) (c : Int) (n : Nat → Int) : Nat → Int := atL [1634760805, 857760878, 2036477234, 1797285236,
  wd (k 0) (k 1) (k 2) (k 3), wd (k 4) (k 5) (k 6) (k 7), wd (k 8) (k 9) (k 10) (k 11), wd (k 12) (k 13) (k 14) (k 15), wd (k 16) (k 17) (k 18) (k 19), wd (k 20) (k 21) (k 22) (k 23), wd (k 24) (k 25) (k 26) (k 27), wd (k 28) (k 29) (k 30) (k 31),
  c, wd (n 0) (n 1) (n 2) (n 3), wd (n 4) (n 5) (n 6) (n 7), wd (n 8) (n 9) (n 10) (n 11)]
noncomputable abbrev k32 (k : Nat → Int) : List SV := svF (List.replicate 32 .u8) k 0
noncomputable abbrev n12 (k : Nat → Int) : List SV := svF (List.replicate 12 .u8) k 0
theorem stt_run (k : Nat → Int) (c : Int) (n : Nat → Int) : runF g2 1000 [] 24 [.agg (k32 k), .int .u32 c, .agg (n12 n)] [] [] = some (.agg ([.lit .u32 1634760805, .lit .u32 857760878, .lit .u32 2036477234, .lit .u32 1797285236] ++ (w16 (stt k c n)).drop 4), [], []) := by kernel_rfl
noncomputable def F24 : SumF := fun args B => match args, B with
  | [.agg xs, .int .u32 c, .agg ys], [] => match numsAs (List.replicate 32 .u8) xs, numsAs (List.replicate 12 .u8) ys with
    | some lk, some ln => some { val := .agg (w16 (stt (atL lk) c (atL ln))) }
    | _, _ => none
  | _, _ => none
theorem acc24 : Acc g2 24 F24 := by
  intro args B out h hC
  unfold F24 at h
  split at h
  · rename_i xs c ys
    split at h
    · rename_i lk ln hx hy
      simp only [Option.some.injEq] at h; subst h
      refine FnOk.imp (args' := [.agg (k32 (atL lk)), .int .u32 c, .agg (n12 (atL ln))]) ?_ ⟨nums_imp hx, DenImp.refl _, nums_imp hy, trivial⟩
      exact FnOk.val (FnOk.pure g2_ok (stt_run _ _ _) (by simp [AllC])) fun _ _ _ _ d => denV_norm d
    · simp at h
  · simp at h
/-! ### four -/
noncomputable abbrev w64 (x : Nat → Int) : List SV := svF (List.replicate 64 .u32) x 0
abbrev fiKeep : List Nat := [1, 4, 8, 9, 10, 11, 85, 88, 102]
noncomputable abbrev fiBody : Code := bodyAt Try.prog 28 36
noncomputable abbrev fiS (q : Nat) (i k w u v : Int) (n : Nat) : List (Nat × SV) := fiKeep.zip [.sptr 0 0 q 1 0, .ptr 1 0, .ptr 2 0, .int .i64 i, .int .i64 k, .int .u32 w, .int .i64 u, .int .i64 v, .int .i64 (n : Int)]
noncomputable abbrev fiB (l : List Int) (b x : Nat → Int) : List Body := [.ints .u8 l, .cells (w64 b), .cells (w64 x)]
theorem fi_go (q : Nat) (i k w u v : Int) (n : Nat) (l : List Int) (b x : Nat → Int) : runC g2 300 127 [.br true] fiBody (fiS q i k w u v n) (fiB l b x) fiKeep [0, 1, 2] =
    some (Ex.normal, [SV.sptr (0 : Nat) (0 : Nat) q (1 : Nat) (0 : Nat), SV.ptr (1 : Nat) (0 : Nat), SV.ptr (2 : Nat) (0 : Nat), SV.int IntKind.i64 i, SV.int IntKind.i64 k, SV.int IntKind.u32 w, SV.int IntKind.i64 u, SV.int IntKind.i64 v, SV.int IntKind.i64 ((↑n : Int) + (1 : Int))], [some (Body.ints IntKind.u8 (l.set (q + ((64 : Int) * k + (4 : Int) * i + (↑n : Int)).toNat + (0 : Nat)) (uxor (l.getD (q + ((64 : Int) * k + (4 : Int) * i + (↑n : Int)).toNat + (0 : Nat)) (0 : Int)) (ucut IntKind.u8 (ushr w ((8 : Int) * (↑n : Int))))))), some (Body.cells [SV.int IntKind.u32 (b (0 : Nat)), SV.int IntKind.u32 (b (1 : Nat)), SV.int IntKind.u32 (b (2 : Nat)), SV.int IntKind.u32 (b (3 : Nat)), SV.int IntKind.u32 (b (4 : Nat)), SV.int IntKind.u32 (b (5 : Nat)), SV.int IntKind.u32 (b (6 : Nat)), SV.int IntKind.u32 (b (7 : Nat)), SV.int IntKind.u32 (b (8 : Nat)), SV.int IntKind.u32 (b (9 : Nat)), SV.int IntKind.u32 (b (10 : Nat)), SV.int IntKind.u32 (b (11 : Nat)), SV.int IntKind.u32 (b (12 : Nat)), SV.int IntKind.u32 (b (13 : Nat)), SV.int IntKind.u32 (b (14 : Nat)), SV.int IntKind.u32 (b (15 : Nat)), SV.int IntKind.u32 (b (16 : Nat)), SV.int IntKind.u32 (b (17 : Nat)), SV.int IntKind.u32 (b (18 : Nat)), SV.int IntKind.u32 (b (19 : Nat)), SV.int IntKind.u32 (b (20 : Nat)), SV.int IntKind.u32 (b (21 : Nat)), SV.int IntKind.u32 (b (22 : Nat)), SV.int IntKind.u32 (b (23 : Nat)), SV.int IntKind.u32 (b (24 : Nat)), SV.int IntKind.u32 (b (25 : Nat)), SV.int IntKind.u32 (b (26 : Nat)), SV.int IntKind.u32 (b (27 : Nat)), SV.int IntKind.u32 (b (28 : Nat)), SV.int IntKind.u32 (b (29 : Nat)), SV.int IntKind.u32 (b (30 : Nat)), SV.int IntKind.u32 (b (31 : Nat)), SV.int IntKind.u32 (b (32 : Nat)), SV.int IntKind.u32 (b (33 : Nat)), SV.int IntKind.u32 (b (34 : Nat)), SV.int IntKind.u32 (b (35 : Nat)), SV.int IntKind.u32 (b (36 : Nat)), SV.int IntKind.u32 (b (37 : Nat)), SV.int IntKind.u32 (b (38 : Nat)), SV.int IntKind.u32 (b (39 : Nat)), SV.int IntKind.u32 (b (40 : Nat)), SV.int IntKind.u32 (b (41 : Nat)), SV.int IntKind.u32 (b (42 : Nat)), SV.int IntKind.u32 (b (43 : Nat)), SV.int IntKind.u32 (b (44 : Nat)), SV.int IntKind.u32 (b (45 : Nat)), SV.int IntKind.u32 (b (46 : Nat)), SV.int IntKind.u32 (b (47 : Nat)), SV.int IntKind.u32 (b (48 : Nat)), SV.int IntKind.u32 (b (49 : Nat)), SV.int IntKind.u32 (b (50 : Nat)), SV.int IntKind.u32 (b (51 : Nat)), SV.int IntKind.u32 (b (52 : Nat)), SV.int IntKind.u32 (b (53 : Nat)), SV.int IntKind.u32 (b (54 : Nat)), SV.int IntKind.u32 (b (55 : Nat)), SV.int IntKind.u32 (b (56 : Nat)), SV.int IntKind.u32 (b (57 : Nat)), SV.int IntKind.u32 (b (58 : Nat)), SV.int IntKind.u32 (b (59 : Nat)), SV.int IntKind.u32 (b (60 : Nat)), SV.int IntKind.u32 (b (61 : Nat)), SV.int IntKind.u32 (b (62 : Nat)), SV.int IntKind.u32 (b (63 : Nat))]), some (Body.cells [SV.int IntKind.u32 (x (0 : Nat)), SV.int IntKind.u32 (x (1 : Nat)), SV.int IntKind.u32 (x (2 : Nat)), SV.int IntKind.u32 (x (3 : Nat)), SV.int IntKind.u32 (x (4 : Nat)), SV.int IntKind.u32 (x (5 : Nat)), SV.int IntKind.u32 (x (6 : Nat)), SV.int IntKind.u32 (x (7 : Nat)), SV.int IntKind.u32 (x (8 : Nat)), SV.int IntKind.u32 (x (9 : Nat)), SV.int IntKind.u32 (x (10 : Nat)), SV.int IntKind.u32 (x (11 : Nat)), SV.int IntKind.u32 (x (12 : Nat)), SV.int IntKind.u32 (x (13 : Nat)), SV.int IntKind.u32 (x (14 : Nat)), SV.int IntKind.u32 (x (15 : Nat)), SV.int IntKind.u32 (x (16 : Nat)), SV.int IntKind.u32 (x (17 : Nat)), SV.int IntKind.u32 (x (18 : Nat)), SV.int IntKind.u32 (x (19 : Nat)), SV.int IntKind.u32 (x (20 : Nat)), SV.int IntKind.u32 (x (21 : Nat)), SV.int IntKind.u32 (x (22 : Nat)), SV.int IntKind.u32 (x (23 : Nat)), SV.int IntKind.u32 (x (24 : Nat)), SV.int IntKind.u32 (x (25 : Nat)), SV.int IntKind.u32 (x (26 : Nat)), SV.int IntKind.u32 (x (27 : Nat)), SV.int IntKind.u32 (x (28 : Nat)), SV.int IntKind.u32 (x (29 : Nat)), SV.int IntKind.u32 (x (30 : Nat)), SV.int IntKind.u32 (x (31 : Nat)), SV.int IntKind.u32 (x (32 : Nat)), SV.int IntKind.u32 (x (33 : Nat)), SV.int IntKind.u32 (x (34 : Nat)), SV.int IntKind.u32 (x (35 : Nat)), SV.int IntKind.u32 (x (36 : Nat)), SV.int IntKind.u32 (x (37 : Nat)), SV.int IntKind.u32 (x (38 : Nat)), SV.int IntKind.u32 (x (39 : Nat)), SV.int IntKind.u32 (x (40 : Nat)), SV.int IntKind.u32 (x (41 : Nat)), SV.int IntKind.u32 (x (42 : Nat)), SV.int IntKind.u32 (x (43 : Nat)), SV.int IntKind.u32 (x (44 : Nat)), SV.int IntKind.u32 (x (45 : Nat)), SV.int IntKind.u32 (x (46 : Nat)), SV.int IntKind.u32 (x (47 : Nat)), SV.int IntKind.u32 (x (48 : Nat)), SV.int IntKind.u32 (x (49 : Nat)), SV.int IntKind.u32 (x (50 : Nat)), SV.int IntKind.u32 (x (51 : Nat)), SV.int IntKind.u32 (x (52 : Nat)), SV.int IntKind.u32 (x (53 : Nat)), SV.int IntKind.u32 (x (54 : Nat)), SV.int IntKind.u32 (x (55 : Nat)), SV.int IntKind.u32 (x (56 : Nat)), SV.int IntKind.u32 (x (57 : Nat)), SV.int IntKind.u32 (x (58 : Nat)), SV.int IntKind.u32 (x (59 : Nat)), SV.int IntKind.u32 (x (60 : Nat)), SV.int IntKind.u32 (x (61 : Nat)), SV.int IntKind.u32 (x (62 : Nat)), SV.int IntKind.u32 (x (63 : Nat))])], [decide ((↑n : Int) < (4 : Int)) = true, q + ((64 : Int) * k + (4 : Int) * i + (↑n : Int)).toNat + (0 : Nat) < l.length, (0 : Int) ≤ (64 : Int) * k + (4 : Int) * i + (↑n : Int) ∧ (64 : Int) * k + (4 : Int) * i + (↑n : Int) < (↑(256 : Nat) : Int), (0 : Int) ≤ (8 : Int) * (↑n : Int), Fits IntKind.i64 ((8 : Int) * (↑n : Int)), q + ((64 : Int) * k + (4 : Int) * i + (↑n : Int)).toNat + (0 : Nat) < l.length, (0 : Int) ≤ (64 : Int) * k + (4 : Int) * i + (↑n : Int) ∧ (64 : Int) * k + (4 : Int) * i + (↑n : Int) < (↑(256 : Nat) : Int), Fits IntKind.i64 ((64 : Int) * k + (4 : Int) * i + (↑n : Int)), Fits IntKind.i64 ((64 : Int) * k + (4 : Int) * i), Fits IntKind.i64 ((4 : Int) * i), Fits IntKind.i64 ((64 : Int) * k), Fits IntKind.i64 ((↑n : Int) + (1 : Int))]) := by kernel_rfl
abbrev frKeep : List Nat := [1, 4, 8, 42]
noncomputable abbrev frBody : Code := bodyAt Try.prog 28 18
noncomputable abbrev frS (q : Nat) (i : Nat) : List (Nat × SV) := frKeep.zip [.sptr 0 0 q 1 0, .ptr 1 0, .ptr 2 0, .int .i64 (i : Int)]
/-- one of the four lanes -/
def lane (k : Nat) (x : Nat → Int) : Nat → Int := fun i => x (4 * i + k)
def dr4 (x : Nat → Int) : Nat → Int := fun j => dr (lane (j % 4) x) (j / 4)
theorem fr_go (q i : Nat) (l : List Int) (b x : Nat → Int) : runC g2 1000 127 [.br true] frBody (frS q i) (fiB l b x) frKeep [0, 1, 2] =
    some (.normal, [.sptr 0 0 q 1 0, .ptr 1 0, .ptr 2 0, .int .i64 ((i : Int) + 1)], (fiB l b (dr4 x)).map some, [decide ((i : Int) < 10) = true, Fits .i64 ((i : Int) + 1)]) := by kernel_rfl
theorem fr_end (q i : Nat) (l : List Int) (b x : Nat → Int) : runC g2 1000 127 [.br false] frBody (frS q i) (fiB l b x) frKeep [0, 1, 2] =
    some (.exit 6, [.sptr 0 0 q 1 0, .ptr 1 0, .ptr 2 0, .int .i64 (i : Int)], (fiB l b x).map some, [decide ((i : Int) < 10) = false]) := by kernel_rfl
def drN4 : Nat → (Nat → Int) → Nat → Int
  | 0, x => x
  | n + 1, x => dr4 (drN4 n x)
noncomputable def frG : LoopF := fun vals B => match vals, B with
  | [.sptr 0 0 q 1 0, .ptr 1 0, .ptr 2 0, .int .i64 0], [.ints K l, .cells bs, .cells xs] => match sameK K .u8, numsAs (List.replicate 64 .u32) bs, numsAs (List.replicate 64 .u32) xs with
    | true, some lb, some lx => some ([(1, .sptr 0 0 q 1 0), (4, .ptr 1 0), (8, .ptr 2 0)], fiB l (atL lb) (drN4 10 (atL lx)), [])
    | _, _, _ => none
  | _, _ => none
theorem fr_loop : LoopGood g2 127 (.loop frBody) frKeep 3 (.exit 6) (mkLoopN frG) := by
  refine LoopGood.mkN (by decide) fun vals B S' B' C hG hC hlen w0 O hgl => ?_
  clear hlen
  unfold frG at hG
  split at hG
  · rename_i q K l bs xs
    split at hG
    · rename_i lb lx hK hb hx
      obtain rfl := kidx_inj hK
      simp only [Option.some.injEq, Prod.mk.injEq] at hG
      obtain ⟨rfl, rfl, rfl⟩ := hG
      refine SimC.preI (B1 := fiB l (atL lb) (atL lx)) ?_ ⟨⟨BImp.refl _, fun _ h => by simp at h⟩, cells_nums hb, cells_nums hx, trivial⟩
      refine SimC.iter (g := g2) (S := frS q) (B := fun i => fiB l (atL lb) (drN4 i (atL lx))) (N := 10) (fun i hi => ?_) ?_ (by simp) 0 (by omega)
      · have F : Fits .i64 ((i : Int) + 1) := fits_of (by omega) (by omega)
        exact SimC.run (B' := fiB l (atL lb) (drN4 (i + 1) (atL lx))) g2_ok (by decide) (fr_go q i l _ _) (by (simp only [allC_cons, allC_nil, and_true]; repeat' (with_reducible (first | refine And.intro ?_ ?_ | exact True.intro | assumption | omega | exact decide_eq_true (by first | assumption | omega) | exact decide_eq_false (by first | assumption | omega) | rfl | (simp; done))))) (by decide) i3 (by decide) (by simp) hgl
      · exact SimC.weaken (SimC.run (B' := fiB l (atL lb) (drN4 10 (atL lx))) g2_ok (by decide) (fr_end q 10 l _ _) (by (simp only [allC_cons, allC_nil, and_true]; repeat' (with_reducible (first | refine And.intro ?_ ?_ | exact True.intro | assumption | omega | exact decide_eq_true (by first | assumption | omega) | exact decide_eq_false (by first | assumption | omega) | rfl | (simp; done))))) (by decide) i3 (by decide) (by simp) hgl) (sub_mkT (by simp; exact ⟨rfl, rfl, rfl⟩))
    · simp at hG
  · simp at hG
/-- a byte of a word -/
def byt (w : Int) (n : Nat) : Int := ucut .u8 (ushr w (8 * (n : Int)))
def xwN (l : List Int) (p : Nat) (w : Int) : Nat → List Int
  | 0 => l
  | n + 1 => (xwN l p w n).set (p + n) (uxor ((xwN l p w n).getD (p + n) 0) (byt w n))
def xw (l : List Int) (p : Nat) (w : Int) : List Int := xwN l p w 4
theorem xwN_len (l : List Int) (p : Nat) (w : Int) : ∀ n, (xwN l p w n).length = l.length
  | 0 => rfl
  | n + 1 => by simp [xwN, xwN_len l p w n]
theorem fi_end (q : Nat) (i k w u v : Int) (n : Nat) (l : List Int) (b x : Nat → Int) : runC g2 300 127 [.br false] fiBody (fiS q i k w u v n) (fiB l b x) fiKeep [0, 1, 2] =
    some (.exit 12, [.sptr 0 0 q 1 0, .ptr 1 0, .ptr 2 0, .int .i64 i, .int .i64 k, .int .u32 w, .int .i64 u, .int .i64 v, .int .i64 (n : Int)], (fiB l b x).map some, [decide ((n : Int) < 4) = false]) := by kernel_rfl
noncomputable def fiG : LoopF := fun vals B => match vals, B with
  | [.sptr 0 0 q 1 0, .ptr 1 0, .ptr 2 0, .int .i64 i, .int .i64 k, .int .u32 w, .int .i64 u, .int .i64 v, .int .i64 0], [.ints K l, .cells bs, .cells xs] => match sameK K .u8, numsAs (List.replicate 64 .u32) bs, numsAs (List.replicate 64 .u32) xs with
    | true, some lb, some lx => some ([(1, .sptr 0 0 q 1 0), (4, .ptr 1 0), (8, .ptr 2 0), (9, .lit .i64 i), (10, .lit .i64 k), (85, .lit .i64 u), (88, .lit .i64 v)], fiB (xw l (q + (64 * k + 4 * i).toNat) w) (atL lb) (atL lx), [0 ≤ i, i < 16, 0 ≤ k, k < 4, q + 256 ≤ l.length])
    | _, _, _ => none
  | _, _ => none
theorem fi_loop : LoopGood g2 127 (.loop fiBody) fiKeep 3 (.exit 12) (mkLoopN fiG) := by
  refine LoopGood.mkN (by decide) fun vals B S' B' C hG hC hlen w0 O hgl => ?_
  clear hlen
  unfold fiG at hG
  split at hG
  · rename_i q i k w u v K l bs xs
    split at hG
    · rename_i lb lx hK hb hx
      obtain rfl := kidx_inj hK
      simp only [Option.some.injEq, Prod.mk.injEq] at hG
      obtain ⟨rfl, rfl, rfl⟩ := hG
      simp only [allC_cons, allC_nil, and_true] at hC
      obtain ⟨h1, h2, h3, h4, h5⟩ := hC
      refine SimC.preI (B1 := fiB l (atL lb) (atL lx)) ?_ ⟨⟨BImp.refl _, fun _ h => by simp at h⟩, cells_nums hb, cells_nums hx, trivial⟩
      refine SimC.iter (g := g2) (S := fiS q i k w u v) (B := fun n => fiB (xwN l (q + (64 * k + 4 * i).toNat) w n) (atL lb) (atL lx)) (N := 4) (fun n hn => ?_) ?_ (by simp) 0 (by omega)
      · have F1 : Fits .i64 ((n : Int) + 1) := fits_of (by omega) (by omega)
        have F2 : Fits .i64 (8 * (n : Int)) := fits_of (by omega) (by omega)
        have F3 : Fits .i64 (64 * k + 4 * i + (n : Int)) := fits_of (by omega) (by omega)
        have F4 : Fits .i64 (64 * k + 4 * i) := fits_of (by omega) (by omega)
        have F5 : Fits .i64 (64 * k) := fits_of (by omega) (by omega)
        have F6 : Fits .i64 (4 * i) := fits_of (by omega) (by omega)
        have e : q + (64 * k + 4 * i + (n : Int)).toNat + 0 = q + (64 * k + 4 * i).toNat + n := by omega
        have hl := xwN_len l (q + (64 * k + 4 * i).toNat) w n
        refine SimC.run (B' := fiB (xwN l (q + (64 * k + 4 * i).toNat) w (n + 1)) (atL lb) (atL lx)) (ids := [0, 1, 2]) g2_ok (by decide) (by have := fi_go q i k w u v n (xwN l (q + (64 * k + 4 * i).toNat) w n) (atL lb) (atL lx); rw [e] at this; exact this) ?_ (by decide) i3 (by decide) (by simp) hgl
        simp only [hl]
        (simp only [allC_cons, allC_nil, and_true]; repeat' (with_reducible (first | refine And.intro ?_ ?_ | exact True.intro | assumption | omega | exact decide_eq_true (by first | assumption | omega) | exact decide_eq_false (by first | assumption | omega) | rfl | (simp; done))))
      · exact SimC.weakenI (SimC.run (B' := fiB (xwN l (q + (64 * k + 4 * i).toNat) w 4) (atL lb) (atL lx)) g2_ok (by decide) (fi_end q i k w u v 4 _ _ _) (by (simp only [allC_cons, allC_nil, and_true]; repeat' (with_reducible (first | refine And.intro ?_ ?_ | exact True.intro | assumption | omega | exact decide_eq_true (by first | assumption | omega) | exact decide_eq_false (by first | assumption | omega) | rfl | (simp; done))))) (by decide) i3 (by decide) (by simp) hgl) (by simp; exact ⟨DenImp.refl _, DenImp.refl _, DenImp.refl _, DenImp.lit, DenImp.lit, DenImp.lit, DenImp.lit⟩)
    · simp at hG
  · simp at hG
/-- the words of four blocks, in their order -/
def ord4 : List Nat := (List.range 64).map fun u => 16 * (u % 4) + u / 4
def fourL (l : List Int) (q : Nat) (W : Nat → Int) : List Int := ord4.foldl (fun l t => xw l (q + 4 * t) (W t)) l
def bg (s : Nat → Int) (j : Nat) : Int := if j / 4 = 12 then uadd .u32 (s 12) (j % 4 : Nat) else s (j / 4)
noncomputable def fourCs (q : Nat) (W : Nat → Int) : List Nat → List Int → List Prop
  | [], _ => []
  | t :: r, l => LoopGood g2 127 (.loop fiBody) fiKeep 3 (.exit 12) (mkLoopN fiG) :: ((0 : Int) ≤ (t % 16 : Nat)) :: (((t % 16 : Nat) : Int) < 16) :: ((0 : Int) ≤ (t / 16 : Nat)) :: (((t / 16 : Nat) : Int) < 4) :: (q + 256 ≤ l.length) :: fourCs q W r (xw l (q + 4 * t) (W t))
def fw (b : Nat → Int) (t : Nat) : Int := uadd .u32 (drN4 10 b (4 * (t % 16) + t / 16)) (b (4 * (t % 16) + t / 16))
end Go.Proofs.Ytibfkpgdpldjbaa
