/- Accounts of this seat's functions: lemmas, no statement of their own. No conditions. -/
import Derived.Test.YtejcjdhplpjpjaaTUf
import Derived.Test.YtejcjdhplpjpjaaTPa
import Derived.Test.YtejcjdhplpjpjaaTQp
import Derived.Test.YtejcjdhplpjpjaaV5
import Derived.Test.YtejcjdhplpjpjaaTSf
namespace Go.Proofs.Ytejcjdhplpjpjaa
open Go Go.Vx
/-! ### two lists of events that are one -/
abbrev leKeep : List Nat := [0, 1, 5]
noncomputable abbrev leBody : Code := bodyAt Try.prog 25 4
abbrev leS (i : Nat) : List (Nat × SV) := leKeep.zip [.own 0, .own 1, .int .i64 (i : Int)]
noncomputable abbrev leB (l : List (List Int)) : List Body := [.rows [.i64, .i64] l, .rows [.i64, .i64] l]
theorem le_go (i : Nat) (l : List (List Int)) : runC ge 200 41 [.br true, .br false, .br false] leBody (leS i) (leB l) leKeep [0, 1] =
    some (Ex.normal, [SV.own (0 : Nat), SV.own (1 : Nat), SV.int IntKind.i64 ((↑i : Int) + (1 : Int))], [some (Body.rows [IntKind.i64, IntKind.i64] l), some (Body.rows [IntKind.i64, IntKind.i64] l)], [Fits IntKind.i64 (↑l.length : Int), decide ((↑i : Int) < (↑l.length : Int)) = true, i < l.length, (0 : Int) ≤ (↑i : Int) ∧ (↑i : Int) < (↑(List.length l) : Int), i < l.length, (0 : Int) ≤ (↑i : Int) ∧ (↑i : Int) < (↑(List.length l) : Int), (!decide ((l.getD (↑i : Int).toNat []).getD ((0 : Nat) + (0 : Nat) + (0 : Nat)) (0 : Int) = (l.getD (↑i : Int).toNat []).getD ((0 : Nat) + (0 : Nat) + (0 : Nat)) (0 : Int))) = false, i < l.length, (0 : Int) ≤ (↑i : Int) ∧ (↑i : Int) < (↑(List.length l) : Int), i < l.length, (0 : Int) ≤ (↑i : Int) ∧ (↑i : Int) < (↑(List.length l) : Int), (!decide ((l.getD (↑i : Int).toNat []).getD ((0 : Nat) + (1 : Nat) + (0 : Nat)) (0 : Int) = (l.getD (↑i : Int).toNat []).getD ((0 : Nat) + (1 : Nat) + (0 : Nat)) (0 : Int))) = false, Fits IntKind.i64 ((↑i : Int) + (1 : Int))]) := by kernel_rfl
theorem le_end (i : Nat) (l : List (List Int)) : runC ge 200 41 [.br false] leBody (leS i) (leB l) leKeep [0, 1] =
    some (Ex.exit (0 : Nat), [SV.own (0 : Nat), SV.own (1 : Nat), SV.int IntKind.i64 (↑i : Int)], [some (Body.rows [IntKind.i64, IntKind.i64] l), some (Body.rows [IntKind.i64, IntKind.i64] l)], [Fits IntKind.i64 (↑l.length : Int), decide ((↑i : Int) < (↑l.length : Int)) = false]) := by kernel_rfl
def leG : LoopF := fun vals B => match vals, B with
  | [.own 0, .own 1, .int .i64 0], [.rows K la, .rows K2 lb] => match sameKs K [.i64, .i64], sameKs K2 [.i64, .i64] with
    | true, true => some ([], [.rows [.i64, .i64] la, .rows [.i64, .i64] lb], [la = lb, la.length ≤ 140737488355328])
    | _, _ => none
  | _, _ => none
theorem le_loop : LoopGood ge 41 (.loop leBody) leKeep 2 (.exit 0) (mkLoopN leG) := by
  refine LoopGood.mkN (by decide) fun vals B S' B' C hG hC hlen w0 O hgl => ?_
  clear hlen
  unfold leG at hG
  split at hG
  · rename_i K la K2 lb
    split at hG
    · rename_i hK hK2
      obtain rfl := sameKs_eq hK
      obtain rfl := sameKs_eq hK2
      simp only [Option.some.injEq, Prod.mk.injEq] at hG
      obtain ⟨rfl, rfl, rfl⟩ := hG
      simp only [allC_cons, allC_nil, and_true] at hC
      obtain ⟨rfl, h3⟩ := hC
      have j2 : ∀ j : Nat, j < 2 → ([0, 1] : List Nat)[j]? = some j := fun j hj => by
        match j, hj with
        | 0, _ => rfl
        | 1, _ => rfl
      have F1 : Fits .i64 (la.length : Int) := Go.Vx.fits_small h3
      refine SimC.iter (g := ge) (S := fun i => leS i) (B := fun _ => leB la) (N := la.length) (fun i hi => ?_) ?_ (by simp) 0 (by omega)
      · have F4 : Fits .i64 ((i : Int) + 1) := fits_of (by omega) (by omega)
        exact SimC.run (B' := leB la) ge_ok (by decide) (le_go i la) (by (simp only [allC_cons, allC_nil, and_true]; repeat' (with_reducible (first | refine And.intro ?_ ?_ | exact True.intro | assumption | omega | exact decide_eq_true (by first | assumption | omega) | exact decide_eq_false (by first | assumption | omega) | rfl | (simp; done))))) (by decide) j2 (by decide) (by simp) hgl
      · exact SimC.weaken (SimC.run (B' := leB la) ge_ok (by decide) (le_end la.length la) (by (simp only [allC_cons, allC_nil, and_true]; repeat' (with_reducible (first | refine And.intro ?_ ?_ | exact True.intro | assumption | omega | exact decide_eq_true (by first | assumption | omega) | exact decide_eq_false (by first | assumption | omega) | rfl | (simp; done))))) (by decide) j2 (by decide) (by simp) hgl) (fun t => .inr (by simp [mkT, tget, Tr.get_lf]))
    · simp at hG
  · simp at hG
theorem se_run (la lb : List (List Int)) : runF ge 200 [.br false, .loop 4 leKeep 2 (.exit 0) (mkLoopN leG)] 25 [.own 0, .own 1] [.rows [.i64, .i64] la, .rows [.i64, .i64] lb] [] =
    some (SV.bool true, [some (Body.rows [IntKind.i64, IntKind.i64] la), some (Body.rows [IntKind.i64, IntKind.i64] lb)], [Fits IntKind.i64 (↑lb.length : Int), Fits IntKind.i64 (↑la.length : Int), (!decide ((↑la.length : Int) = (↑lb.length : Int))) = false, LoopGood ge 41 (.loop leBody) leKeep 2 (.exit 0) (mkLoopN leG), la = lb, la.length ≤ (140737488355328 : Nat)]) := by kernel_rfl
def seF : SumF := fun args B => match args, B with
  | [.own 0, .own 1], [.rows K la, .rows K2 lb] => match sameKs K [.i64, .i64], sameKs K2 [.i64, .i64] with
    | true, true => some { val := .sbool true, C := [la = lb, la.length ≤ 140737488355328] }
    | _, _ => none
  | _, _ => none
theorem se_acc : Acc ge 25 seF := by
  intro args B out h hC
  unfold seF at h
  split at h
  · rename_i K la K2 lb
    split at h
    · rename_i hK hK2
      obtain rfl := sameKs_eq hK
      obtain rfl := sameKs_eq hK2
      simp only [Option.some.injEq] at h; subst h
      simp only [allC_cons, allC_nil, and_true] at hC
      obtain ⟨rfl, hl⟩ := hC
      have F1 : Fits .i64 (la.length : Int) := Go.Vx.fits_small hl
      have hL := le_loop
      refine FnOk.toSb (b := true) ?_ rfl
      refine FnOk.run (out := { val := .bool true }) (new := []) ge_ok (se_run _ _) (by (simp only [allC_cons, allC_nil, and_true]; repeat' (with_reducible (first | refine And.intro ?_ ?_ | exact True.intro | assumption | omega | exact decide_eq_true (by first | assumption | omega) | exact decide_eq_false (by first | assumption | omega) | rfl | (simp; done))))) (by simp [upto]) rfl (by simp) (by simp) fun j hj => ?_
      match j, hj with
      | 0, _ => rfl
      | 1, _ => rfl
      | j + 2, hj => exact absurd hj (by simp)
    · simp at h
  · simp at h
/-! ### all accounts of MacPlays -/
noncomputable abbrev gy : Ctx := ge.add [(11, oneOf F11 F11l), (12, oneOf F12 F12l), (13, oneOf F13 F13l), (21, F21), (24, F24), (25, seF)]
theorem gy_ok : CtxU gy := ge_ok.add mixed noGo (by
  intro x hx
  simp only [List.mem_cons, List.not_mem_nil, or_false] at hx
  rcases hx with rfl | rfl | rfl | rfl | rfl | rfl
  · exact Acc.of (g := gp) rfl rfl (acc_one acc11 acc11l)
  · exact Acc.of (g := gw) rfl rfl (acc_one acc12 acc12l)
  · exact Acc.of (g := gw) rfl rfl (acc_one acc13 acc13l)
  · exact acc21
  · exact acc24
  · exact se_acc)
end Go.Proofs.Ytejcjdhplpjpjaa

namespace Go.Proofs.Ytejcjdhplpjpjaa
open Go Go.Vx
/-! ### MacPlays: the desk is written over -/
abbrev flKeep : List Nat := [1, 2, 5, 6, 7, 8, 9, 10, 11, 12, 14]
noncomputable abbrev flBody : Code := bodyAt Try.prog 7 29
abbrev flO (m L : Nat) (f : Nat → SV) (h i k : Int) : List SV := [.ro 2 m f, .ptr 0 0, .ptr 1 0, .ptr 2 0, .own 3, .own 4, .int .i64 h, .sl 5 L 0 1 0 L false, .int .i64 i, .ptr 6 0, .int .i64 k]
abbrev flS (m L : Nat) (f : Nat → SV) (h i : Int) (k : Nat) : List (Nat × SV) := flKeep.zip (flO m L f h i (k : Int))
noncomputable abbrev flB (ck a : Nat → Int) (b : Bool) (e : List Int) (w l : List (List Int)) (x D : List Int) : List Body := [.cells (svF (List.replicate 32 .u8) ck 0), .log w, macV (.ptr 1 0) a, .ints .u8 x, .rows evK l, .ints .u8 D, .cells [.sbool b, .roi .u8 e]]
theorem fl_go (m L : Nat) (f : Nat → SV) (h i : Int) (k : Nat) (ck a : Nat → Int) (b : Bool) (e : List Int) (w l : List (List Int)) (x D : List Int) : runC gy 300 139 [.br true] flBody (flS m L f h i k) (flB ck a b e w l x D) flKeep [0, 1, 2, 3, 4, 5, 6] =
    some (.normal, flO m L f h i ((k : Int) + 1), (flB ck a b e w l x (D.set (0 + k + 0) 153)).map some, [Fits .i64 (L : Int), decide ((k : Int) < (L : Int)) = true, 0 + k + 0 < D.length, (0 : Int) ≤ (k : Int) ∧ (k : Int) < (L : Int), Fits .i64 ((k : Int) + 1)]) :=
  r3_parts4 (by kernel_rfl) (by kernel_rfl) (by kernel_rfl) (by kernel_rfl)
theorem fl_end (m L : Nat) (f : Nat → SV) (h i : Int) (k : Nat) (ck a : Nat → Int) (b : Bool) (e : List Int) (w l : List (List Int)) (x D : List Int) : runC gy 300 139 [.br false] flBody (flS m L f h i k) (flB ck a b e w l x D) flKeep [0, 1, 2, 3, 4, 5, 6] =
    some (.exit 4, flO m L f h i (k : Int), (flB ck a b e w l x D).map some, [Fits .i64 (L : Int), decide ((k : Int) < (L : Int)) = false]) :=
  r3_parts4 (by kernel_rfl) (by kernel_rfl) (by kernel_rfl) (by kernel_rfl)
end Go.Proofs.Ytejcjdhplpjpjaa

namespace Go.Proofs.Ytejcjdhplpjpjaa
open Go Go.Vx
/-! ### MacPlays: the desk's loop -/
def flD (D : List Int) : Nat → List Int
  | 0 => D
  | k + 1 => (flD D k).set (0 + k + 0) 153
theorem flD_len (D : List Int) : ∀ k, (flD D k).length = D.length
  | 0 => rfl
  | k + 1 => by simp only [flD, List.length_set, flD_len D k]
noncomputable def flG : LoopF := fun vals B => match vals, B with
  | [.ro 2 m f, .ptr 0 0, .ptr 1 0, .ptr 2 0, .own 3, .own 4, .int .i64 h, .sl 5 M 0 1 0 L false, .int .i64 i, .ptr 6 0, .int .i64 0], [.cells ck, .log w, .cells ms, .ints K x, .rows K2 l, .ints K3 D, .cells [.sbool b, .roi K4 e]] =>
    match numsAs (List.replicate 32 .u8) ck, macAs ms, headK (ms.take 1), sameK K .u8, sameKs K2 evK, sameK K3 .u8, sameK K4 .u8 with
    | some lk, some la, .log1, true, true, true, true => some (flKeep.zip (flO m L f h i (L : Int)), flB (atL lk) (atL la) b e w l x (flD D L), [M = L, D.length = L, L ≤ 140737488355328])
    | _, _, _, _, _, _, _ => none
  | _, _ => none
theorem id7 : ∀ j : Nat, j < 7 → ([0, 1, 2, 3, 4, 5, 6] : List Nat)[j]? = some j := fun j hj => by
  match j, hj with
  | 0, _ => rfl
  | 1, _ => rfl
  | 2, _ => rfl
  | 3, _ => rfl
  | 4, _ => rfl
  | 5, _ => rfl
  | 6, _ => rfl
theorem fl_loop : LoopGood gy 139 (.loop flBody) flKeep 7 (.exit 4) (mkLoopN flG) := by
  refine LoopGood.mkN (by decide) fun vals B S' B' C hG hC hlen w0 O hgl => ?_
  clear hlen
  unfold flG at hG
  split at hG
  · rename_i m f h M L i ck w ms K x K2 l K3 D b K4 e
    split at hG
    · rename_i lk la hk ha hr hK hK2 hK3 hK4
      obtain rfl := kidx_inj hK
      obtain rfl := sameKs_eq hK2
      obtain rfl := kidx_inj hK3
      obtain rfl := kidx_inj hK4
      have hr := head_log1 hr
      simp only [Option.some.injEq, Prod.mk.injEq] at hG
      obtain ⟨rfl, rfl, rfl⟩ := hG
      simp only [allC_cons, allC_nil, and_true] at hC
      obtain ⟨rfl, hD, hL⟩ := hC
      have F1 : Fits .i64 (M : Int) := Go.Vx.fits_small hL
      have fl : ∀ l : List SV, Body.cells [.sbool b, .roi .u8 e] = .cells l → flatL l := fun l hl => by
        injection hl with hl
        subst hl
        intro d hd
        simp at hd
        rcases hd with rfl | rfl <;> rfl
      refine SimC.preI (B1 := flB (atL lk) (atL la) b e w l x D) ?_ ⟨cells_nums hk, ⟨BImp.refl _, fun _ h => by simp at h⟩, cells_mac ha hr rfl, ⟨BImp.refl _, fun _ h => by simp at h⟩, ⟨BImp.refl _, fun _ h => by simp at h⟩, ⟨BImp.refl _, fun _ h => by simp at h⟩, ⟨BImp.refl _, fl⟩, trivial⟩
      show SimC _ _ _ _ _ (flS m M f h i 0) (flB (atL lk) (atL la) b e w l x (flD D 0)) _ _ _ _
      refine SimC.iter (g := gy) (e := .exit 4) (S := fun k => flS m M f h i k) (B := fun k => flB (atL lk) (atL la) b e w l x (flD D k)) (N := M) (fun k hk => ?_) ?_ (by simp) 0 (by omega)
      · have hdl := flD_len D k
        refine SimC.run (B' := flB (atL lk) (atL la) b e w l x (flD D (k + 1))) gy_ok (by decide) (fl_go m M f h i k _ _ b e w l x _) ?_ (by decide) id7 (by decide) (by simp) hgl
        simp only [allC_cons, allC_nil, and_true]
        exact ⟨F1, decide_eq_true (by omega), by omega, ⟨by omega, by omega⟩, fits_of (by omega) (by omega)⟩
      · exact SimC.run (B' := flB (atL lk) (atL la) b e w l x (flD D M)) gy_ok (by decide) (fl_end m M f h i M _ _ b e w l x _) (by simp only [allC_cons, allC_nil, and_true]; exact ⟨F1, decide_eq_false (by omega)⟩) (by decide) id7 (by decide) (by simp) hgl
    · simp at hG
  · simp at hG
end Go.Proofs.Ytejcjdhplpjpjaa

namespace Go.Proofs.Ytejcjdhplpjpjaa
open Go Go.Vx
/-! ### MacPlays: a round of the script -/
abbrev pyKeep : List Nat := [1, 2, 5, 6, 7, 8, 9, 10, 11]
noncomputable abbrev pyBody : Code := bodyAt Try.prog 7 12
noncomputable abbrev pyO (p : Nat → Bool) (d : Nat → List Int) (m L : Nat) (h i : Int) : List SV := [.ro 2 m (rowY p d), .ptr 0 0, .ptr 1 0, .ptr 2 0, .own 4, .own 5, .int .i64 h, .sl 3 L 0 1 0 L false, .int .i64 i]
noncomputable abbrev pyS (p : Nat → Bool) (d : Nat → List Int) (m L : Nat) (h : Int) (i : Nat) : List (Nat × SV) := pyKeep.zip (pyO p d m L h (i : Int))
noncomputable abbrev pyB (k a : Nat → Int) (w l : List (List Int)) (x D : List Int) : List Body := [.cells (svF (List.replicate 32 .u8) k 0), .log w, macV (.ptr 1 0) a, .ints .u8 D, .ints .u8 x, .rows evK l]
/-- the tag is asked for -/
theorem py_ask (p : Nat → Bool) (d : Nat → List Int) (m L i : Nat) (h : Int) (k a : Nat → Int) (w l : List (List Int)) (x D : List Int) : runC gy 600 139 [.br true, .br false, .br true, .br false] pyBody (pyS p d m L h i) (pyB k a w l x D) pyKeep [0, 1, 2, 3, 4, 8] =
    some (.normal, pyO p d m L h ((i : Int) + 1), (pyB k a (w ++ evT (n43 a 42)) (l ++ evT h) x D).map some, stC m i x (d i) false ++ [p i = true, (l ++ evT h).length * 16 ≤ 2 ^ 47, x.length = x.length, x.length ≤ 140737488355328, 0 ≤ n43 a 42 ∧ n43 a 42 < 16, w.length < 1000000000, (!decide (Tg a = Dg k x)) = false, Fits .i64 ((i : Int) + 1)]) :=
  r3_parts4 (by kernel_rfl) (by kernel_rfl) (by kernel_rfl) (by kernel_rfl)
theorem py_long (p : Nat → Bool) (d : Nat → List Int) (m L i : Nat) (h : Int) (k a : Nat → Int) (w l : List (List Int)) (x D : List Int) : runC gy 600 139 [.br true, .br true] pyBody (pyS p d m L h i) (pyB k a w l x D) [4] [0, 1, 2, 3, 4, 5] =
    some (.ret, [.bool true], (pyB k a w l x D).map some, stC m i x (d i) true) :=
  r3_parts4 (by kernel_rfl) (by kernel_rfl) (by kernel_rfl) (by kernel_rfl)
theorem py_end (p : Nat → Bool) (d : Nat → List Int) (m L i : Nat) (h : Int) (k a : Nat → Int) (w l : List (List Int)) (x D : List Int) : runC gy 600 139 [.br false] pyBody (pyS p d m L h i) (pyB k a w l x D) pyKeep [0, 1, 2, 3, 4, 5] =
    some (.exit 0, pyO p d m L h (i : Int), (pyB k a w l x D).map some, [Fits .i64 (m : Int), decide ((i : Int) < (m : Int)) = false]) :=
  r3_parts4 (by kernel_rfl) (by kernel_rfl) (by kernel_rfl) (by kernel_rfl)
end Go.Proofs.Ytejcjdhplpjpjaa

namespace Go.Proofs.Ytejcjdhplpjpjaa
open Go Go.Vx
/-! ### MacPlays: a round that writes, the desk long enough -/
abbrev spS (e : List Int) : List Int := ((roomL e).drop (0 + 0)).take (e.length + 70)
abbrev spD (D e : List Int) (L : Nat) : List Int := splice D (0 + 0) ((spS e).take L)
noncomputable abbrev wPl0 : List Plan := [.br true, .br false, .br false, .br false, .br false, .loop 29 flKeep 7 (.exit 4) (mkLoopN flG)]
noncomputable abbrev pyC1 (a : Nat → Int) (L : Nat) (D e : List Int) (w : List (List Int)) : List Prop := [e.length ≤ 1000000000, Fits .i64 ((min (spS e).length L : Nat) : Int), 0 + 0 + ((spS e).take L).length ≤ D.length, 0 + 0 + (e.length + 70) ≤ (roomL e).length, 0 ≤ n43 a 42 ∧ n43 a 42 < 16, 0 + 0 + e.length ≤ (spD D e L).length, e.length ≤ 131072, w.length < 900000000, (0 : Int) ≤ 0 ∧ (0 : Int) ≤ (e.length : Int) ∧ (e.length : Int) ≤ (L : Int), Fits .i64 (e.length : Int)]
abbrev pyC2 (L : Nat) (D e : List Int) : List Prop := [0 + 0 + (e.length + 70) ≤ (spD D e L).length, e.length + 70 ≤ 140737488355328, e.length ≤ 140737488355328, e.length + 70 = e.length + 70, subI (spD D e L) 0 (e.length + 70) = roomL e, (0 : Int) ≤ 0 ∧ (0 : Int) ≤ ((e.length + 70 : Nat) : Int) ∧ ((e.length + 70 : Nat) : Int) ≤ (L : Int), Fits .i64 ((e.length + 70 : Nat) : Int), (!true) = false]
noncomputable abbrev pyC3 (i L : Nat) (h : Int) (D e x : List Int) (l : List (List Int)) : List Prop := [LoopGood gy 139 (.loop flBody) flKeep 7 (.exit 4) (mkLoopN flG), L = L, (spD D e L).length = L, L ≤ 140737488355328, 0 ≤ h ∧ h < 16, 0 ≤ (e.length : Int) ∧ (e.length : Int) ≤ 131072, Fits .i64 (e.length : Int), (l ++ evW h (e.length : Int)).length * 16 ≤ 2 ^ 47, (x ++ e).length * 1 ≤ 2 ^ 47, Fits .i64 ((i : Int) + 1)]
theorem py_w0 (p : Nat → Bool) (d : Nat → List Int) (m L i : Nat) (h : Int) (k a : Nat → Int) (w l : List (List Int)) (x D : List Int) : runC gy 600 139 wPl0 pyBody (pyS p d m L h i) (pyB k a w l x D) pyKeep [0, 1, 2, 3, 10, 9] =
    some (.normal, pyO p d m L (ewH h ((d i).length : Int)) ((i : Int) + 1), (pyB k (wrA (n43 a) (subI (spD D (d i) L) 0 (d i).length)) (w ++ evW (n43 a 42) ((d i).length : Int)) (l ++ evW h ((d i).length : Int)) (x ++ d i) (flD (spD D (d i) L) L)).map some,
      stC m i x (d i) false ++ ([p i = false, Fits .i64 (((d i).length : Int) + 70), Fits .i64 ((d i).length : Int), Fits .i64 (L : Int), decide ((L : Int) < ((d i).length : Int) + 70) = false] ++ (pyC1 a L D (d i) w ++ (pyC2 L D (d i) ++ pyC3 i L h D (d i) x l)))) :=
  r3_parts4 (by kernel_rfl) (by kernel_rfl) (by kernel_rfl) (by kernel_rfl)
end Go.Proofs.Ytejcjdhplpjpjaa

namespace Go.Proofs.Ytejcjdhplpjpjaa
open Go Go.Vx
/-! ### MacPlays: a round that writes, a new desk -/
abbrev gL (e : List Int) : Nat := (2 * (e.length : Int) + 70).toNat
abbrev gD (e : List Int) : List Int := List.replicate (gL e) 0
noncomputable abbrev wPl1 : List Plan := [.br true, .br false, .br false, .br true, .br false, .br false, .loop 29 flKeep 7 (.exit 4) (mkLoopN flG)]
theorem py_w1 (p : Nat → Bool) (d : Nat → List Int) (m L i : Nat) (h : Int) (k a : Nat → Int) (w l : List (List Int)) (x D : List Int) : runC gy 600 139 wPl1 pyBody (pyS p d m L h i) (pyB k a w l x D) pyKeep [0, 1, 2, 7, 11, 10] =
    some (.normal, pyO p d m (gL (d i)) (ewH h ((d i).length : Int)) ((i : Int) + 1), (pyB k (wrA (n43 a) (subI (spD (gD (d i)) (d i) (gL (d i))) 0 (d i).length)) (w ++ evW (n43 a 42) ((d i).length : Int)) (l ++ evW h ((d i).length : Int)) (x ++ d i) (flD (spD (gD (d i)) (d i) (gL (d i))) (gL (d i)))).map some,
      stC m i x (d i) false ++ ([p i = false, Fits .i64 (((d i).length : Int) + 70), Fits .i64 ((d i).length : Int), Fits .i64 (L : Int), decide ((L : Int) < ((d i).length : Int) + 70) = true, (0 : Int) ≤ 2 * ((d i).length : Int) + 70 ∧ 2 * ((d i).length : Int) + 70 = 2 * ((d i).length : Int) + 70 ∧ gL (d i) * 1 ≤ 140737488355328, Fits .i64 (2 * ((d i).length : Int) + 70), Fits .i64 (2 * ((d i).length : Int)), Fits .i64 ((d i).length : Int), Fits .i64 (((d i).length : Int) + 70), Fits .i64 ((d i).length : Int), Fits .i64 ((gL (d i) : Nat) : Int), decide (((gL (d i) : Nat) : Int) < ((d i).length : Int) + 70) = false] ++ (pyC1 a (gL (d i)) (gD (d i)) (d i) w ++ (pyC2 (gL (d i)) (gD (d i)) (d i) ++ pyC3 i (gL (d i)) h (gD (d i)) (d i) x l)))) :=
  r3_parts4 (by kernel_rfl) (by kernel_rfl) (by kernel_rfl) (by kernel_rfl)
end Go.Proofs.Ytejcjdhplpjpjaa

namespace Go.Proofs.Ytejcjdhplpjpjaa
open Go Go.Vx
/-! ### MacPlays: plain facts of a round -/
theorem rI_mod {n : Int} (h : 0 ≤ n) : rI n = n % 16 := by
  show n - 16 * ((n.toNat / 16 : Nat) : Int) = n % 16
  omega
theorem ewH_mod {h n : Int} (h1 : 0 ≤ h ∧ h < 16) (h2 : 0 ≤ n) : ewH h n = (h + n) % 16 := by
  unfold ewH
  by_cases c : 0 < h
  · rw [if_pos c]
    by_cases c2 : n < 16 - h
    · rw [if_pos c2]; omega
    · rw [if_neg c2, rI_mod (by omega)]
      split <;> omega
  · rw [if_neg c, rI_mod h2]
    split <;> omega
theorem spS_eq (e : List Int) : spS e = roomL e := by
  show ((roomL e).drop (0 + 0)).take (e.length + 70) = roomL e
  rw [Nat.add_zero, List.drop_zero, List.take_of_length_le (by rw [roomL_len]; exact Nat.le_refl _)]
theorem spD_eq {D e : List Int} {L : Nat} (h : e.length + 70 ≤ L) : spD D e L = roomL e ++ D.drop (e.length + 70) := by
  show splice D (0 + 0) ((spS e).take L) = _
  rw [spS_eq, List.take_of_length_le (by rw [roomL_len]; exact h)]
  simp [splice, roomL_len]
theorem spD_len {D e : List Int} {L : Nat} (h : e.length + 70 ≤ L) (hD : D.length = L) : (spD D e L).length = L := by
  rw [spD_eq h, List.length_append, roomL_len, List.length_drop]; omega
theorem spD_room {D e : List Int} {L : Nat} (h : e.length + 70 ≤ L) : subI (spD D e L) 0 (e.length + 70) = roomL e := by
  rw [spD_eq h, subI, List.drop_zero, List.take_append_of_le_length (by rw [roomL_len]; exact Nat.le_refl _), List.take_of_length_le (by rw [roomL_len]; exact Nat.le_refl _)]
theorem spD_piece {D e : List Int} {L : Nat} (h : e.length + 70 ≤ L) : subI (spD D e L) 0 e.length = e := by
  rw [spD_eq h, subI, List.drop_zero, List.take_append_of_le_length (by rw [roomL_len]; omega)]
  refine extI (by rw [List.length_take, roomL_len]; omega) fun j hj => ?_
  rw [List.length_take, roomL_len] at hj
  have hj2 : j < e.length := by omega
  rw [List.getD_eq_getElem?_getD, List.getElem?_take, if_pos hj2, ← List.getD_eq_getElem?_getD, roomL_get e (by omega), if_pos hj2]
end Go.Proofs.Ytejcjdhplpjpjaa

namespace Go.Proofs.Ytejcjdhplpjpjaa
open Go Go.Vx
/-! ### MacPlays: what holds between the rounds -/
def xA (p : Nat → Bool) (d : Nat → List Int) : Nat → List Int
  | 0 => []
  | i + 1 => if p i = true then xA p d i else xA p d i ++ d i
noncomputable def aA (p : Nat → Bool) (a : Nat → Int) (d : Nat → List Int) : Nat → (Nat → Int)
  | 0 => a
  | i + 1 => if p i = true then aA p a d i else wrA (n43 (aA p a d i)) (d i)
noncomputable def wA (p : Nat → Bool) (a : Nat → Int) (d : Nat → List Int) : Nat → List (List Int)
  | 0 => []
  | i + 1 => if p i = true then wA p a d i ++ evT (n43 (aA p a d i) 42) else wA p a d i ++ evW (n43 (aA p a d i) 42) ((d i).length : Int)
/-- the desk -/
def DA (p : Nat → Bool) (d : Nat → List Int) (D : List Int) : Nat → List Int
  | 0 => D
  | i + 1 => if p i = true then DA p d D i else if (DA p d D i).length < (d i).length + 70 then flD (spD (gD (d i)) (d i) (gL (d i))) (gL (d i)) else flD (spD (DA p d D i) (d i) (DA p d D i).length) (DA p d D i).length
def sp7 (p : Nat → Bool) (d : Nat → List Int) (m : Nat) : Nat := firstI (fun i => decide (131072 < (xA p d i).length + (d i).length)) m
theorem sp7_le (p : Nat → Bool) (d : Nat → List Int) (m : Nat) : sp7 p d m ≤ m := (firstI_spec _ m).1
theorem sp7_lt {p : Nat → Bool} {d : Nat → List Int} {m i : Nat} (h : i < sp7 p d m) : (xA p d i).length + (d i).length ≤ 131072 := by
  have := (firstI_spec _ m).2.1 i h
  have := of_decide_eq_false this
  omega
theorem sp7_at {p : Nat → Bool} {d : Nat → List Int} {m : Nat} (h : sp7 p d m < m) : 131072 < (xA p d (sp7 p d m)).length + (d (sp7 p d m)).length := of_decide_eq_true ((firstI_spec _ m).2.2 h)
theorem xA_len {p : Nat → Bool} {d : Nat → List Int} {m : Nat} : ∀ i, i ≤ sp7 p d m → (xA p d i).length ≤ 131072
  | 0, _ => by simp [xA]
  | i + 1, h => by
    have := sp7_lt (show i < sp7 p d m by omega)
    simp only [xA]
    split
    · exact xA_len (m := m) i (by omega)
    · rw [List.length_append]; omega
theorem MS_A {T : Int} {mk : Nat → Int} {p : Nat → Bool} {d : Nat → List Int} {m : Nat} {a : Nat → Int} (h0 : MS T mk [] a) (hd : YB d m) : ∀ i, i ≤ m → MS T mk (xA p d i) (aA p a d i)
  | 0, _ => h0
  | i + 1, h => by
    have ih := MS_A (p := p) h0 hd i (by omega)
    simp only [xA, aA]
    split
    · exact ih
    · exact MS_write (MS_43 ih) (hd i (by omega))
theorem evT_len (h : Int) : (evT h).length ≤ 4 := by unfold evT; split <;> simp
theorem evW_len {h n : Int} (h1 : 0 ≤ h ∧ h < 16) (h2 : 0 ≤ n) : (evW h n).length ≤ 8 + n.toNat := by
  unfold evW
  split
  · split
    · rw [evE_len]; simp; omega
    · rw [evE_len]; simp; omega
  · rw [evE_len]; simp; omega
theorem wA_len {T : Int} {mk : Nat → Int} {p : Nat → Bool} {d : Nat → List Int} {m : Nat} {a : Nat → Int} (h0 : MS T mk [] a) (hd : YB d m) : ∀ i, i ≤ m → (wA p a d i).length ≤ 12 * i + (xA p d i).length
  | 0, _ => by simp [wA]
  | i + 1, h => by
    have ih := wA_len (p := p) h0 hd i (by omega)
    have M := MS_h (MS_43 (MS_A (p := p) h0 hd i (by omega)))
    simp only [wA, xA]
    split
    · have := evT_len (n43 (aA p a d i) 42)
      rw [List.length_append]; omega
    · have := evW_len M (Int.natCast_nonneg (d i).length)
      rw [Int.toNat_natCast] at this
      rw [List.length_append, List.length_append]; omega
theorem gL_eq (e : List Int) : gL e = 2 * e.length + 70 := by show (2 * (e.length : Int) + 70).toNat = _; omega
theorem DA_len {p : Nat → Bool} {d : Nat → List Int} {D : List Int} {m : Nat} (h0 : D.length = 64) : ∀ i, i ≤ sp7 p d m → (DA p d D i).length ≤ 300000
  | 0, _ => by simp only [DA]; omega
  | i + 1, h => by
    have ih := DA_len (p := p) (d := d) (m := m) h0 i (by omega)
    have hs := sp7_lt (show i < sp7 p d m by omega)
    have g := gL_eq (d i)
    simp only [DA]
    split
    · exact ih
    · split
      · rw [flD_len, spD_len (by omega) (by rw [List.length_replicate])]; omega
      · rw [flD_len, spD_len (by omega) rfl]; exact ih
/-- what is held -/
theorem held_next {T : Int} {mk : Nat → Int} {X : List Int} {a : Nat → Int} {e : List Int} (h : MS T mk X a) (he : Bytes e) : ewH (n43 a 42) (e.length : Int) = n43 (wrA (n43 a) e) 42 := by
  have h1 := MS_43 h
  have h2 := MS_43 (MS_write h1 he)
  rw [ewH_mod (MS_h h1) (by omega), h1.held, h2.held, List.length_append]
  omega
end Go.Proofs.Ytejcjdhplpjpjaa

namespace Go.Proofs.Ytejcjdhplpjpjaa
open Go Go.Vx
/-! ### Of, Check -/
noncomputable abbrev oC (f : Nat → SV) (m : Nat) : List Prop := lC f m ++ [∀ i, i < m → factsC (f i)]
noncomputable def ofG : LoopF := fun vals B => match vals, B with
  | [.raw (.pointer none), .ro 1 m f, .ptr 0 0, .ptr 1 0, .int .i64 0], [.cells zs, .cells ms] => match numsAs (List.replicate 16 .u8) zs, macAs ms, headK (ms.take 1) with
    | some lz, some la, .nil => some ([(6, .ptr 0 0), (7, .ptr 1 0)], ofB (atL lz) (aZ (atL la) (lOf f) m), oC f m ++ [∃ T mk, MS T mk [] (atL la)])
    | _, _, _ => none
  | _, _ => none
theorem rowL_bytes {f : Nat → SV} {m : Nat} (h : f = rowL (lOf f)) (hf : ∀ i, i < m → factsC (f i)) : YB (lOf f) m := fun i hi => by
  have := hf i hi
  rw [h] at this
  exact bytes_of this
theorem idB : ∀ j : Nat, j < 2 → ([0, 1] : List Nat)[j]? = some j := fun j hj => by
  match j, hj with
  | 0, _ => rfl
  | 1, _ => rfl
theorem of_loop : LoopGood gn 30 (.loop ofBody) ofKeep 2 (.exit 0) (mkLoopN ofG) := by
  refine LoopGood.mkN (by decide) fun vals B S' B' C hG hC hlen w0 O hgl => ?_
  clear hlen
  unfold ofG at hG
  split at hG
  · rename_i m f zs ms
    split at hG
    · rename_i lz la hz ha hr
      have hr := head_nil hr
      simp only [Option.some.injEq, Prod.mk.injEq] at hG
      obtain ⟨rfl, rfl, rfl⟩ := hG
      simp only [oC, lC, allC_append, allC_cons, allC_nil, and_true] at hC
      obtain ⟨⟨⟨hf, Fm, hl⟩, hff⟩, T, mk, h0⟩ := hC
      have hd := rowL_bytes hf hff
      generalize lOf f = d at *
      rw [hf]
      clear hf hff
      have hm : (m : Int) ≤ 9223372036854775807 := Fm.2
      refine SimC.preI (B1 := ofB (atL lz) (atL la)) ?_ ⟨cells_nums hz, cells_mac ha hr rfl, trivial⟩
      show SimC _ _ _ _ _ (ofS d m 0) (ofB (atL lz) (aZ (atL la) d 0)) _ _ _ _
      refine SimC.iter (g := gn) (e := .exit 0) (S := fun i => ofS d m i) (B := fun i => ofB (atL lz) (aZ (atL la) d i)) (N := m) (fun i hi => ?_) ?_ (by simp) 0 (by omega)
      · have hli := hl i hi
        refine SimC.run (B' := ofB (atL lz) (aZ (atL la) d (i + 1))) gn_ok (by decide) (of_go d m i _ _) ?_ (by decide) (idB) (by decide) (by simp) hgl
        simp only [allC_cons, allC_nil, and_true]
        exact ⟨Fm, decide_eq_true (by omega), MS_h (MS_43 (MS_Z h0 hd i (by omega))), by omega, ⟨by omega, by omega⟩, fits_of (by omega) (by omega)⟩
      · exact SimC.weaken (SimC.run (B' := ofB (atL lz) (aZ (atL la) d m)) gn_ok (by decide) (of_end d m m _ _) (by simp only [allC_cons, allC_nil, and_true]; exact ⟨Fm, decide_eq_false (by omega)⟩) (by decide) (idB) (by decide) (by simp) hgl) (sub_mkT (by simp; exact ⟨rfl, rfl⟩))
    · simp at hG
  · simp at hG
noncomputable abbrev ofN (k : Nat → Int) (d : Nat → List Int) (m : Nat) : Nat → Int := n43 (aZ (atL (nwL (kk k))) d m)
theorem of_run (k : Nat → Int) (d : Nat → List Int) (m : Nat) : runF gn 900 [.loop 3 ofKeep 2 (.exit 0) (mkLoopN ofG)] 16 [nilR, .agg (svF (List.replicate 32 .u8) k 0), .ro 1 m (rowL d)] [] [] =
    some (.agg (svF (List.replicate 16 .u8) (tgN (ofN k d m)) 0), [], [LoopGood gn 30 (.loop ofBody) ofKeep 2 (.exit 0) (mkLoopN ofG)] ++ (oC (rowL d) m ++ [∃ T mk, MS T mk [] (atL (nwL (kk k))), 0 ≤ ofN k d m 42 ∧ ofN k d m 42 < 16])) :=
  run_parts (by kernel_rfl) (by kernel_rfl) (by kernel_rfl)
def DT (k : Nat → Int) (x : List Int) : List Int := dTag (kT (kk k)) (atL (hiK (kk k))) x
theorem DT_L (k : Nat → Int) (x : List Int) : listF 16 (atL (DT k x)) 0 = DT k x := dTag_L _ _ _
noncomputable def F16 : SumF := fun args B => match args, B with
  | [.raw (.pointer none), .agg ks, .ro 1 m f], [] => match numsAs (List.replicate 32 .u8) ks with
    | some lk => some { val := .agg (svF (List.replicate 16 .u8) (atL (DT (atL lk) (xZ (lOf f) m))) 0), C := oC f m }
    | _ => none
  | _, _ => none
theorem acc16 : Acc gn 16 F16 := by
  intro args B out h hC
  unfold F16 at h
  split at h
  · rename_i ks m f
    split at h
    · rename_i lk hk
      simp only [Option.some.injEq] at h; subst h
      have hC2 := hC
      simp only [oC, lC, allC_append, allC_cons, allC_nil, and_true] at hC2
      obtain ⟨⟨hf, Fm, hl⟩, hff⟩ := hC2
      have hd := rowL_bytes hf hff
      rw [hf] at hff
      generalize lOf f = d at *
      have hc : AllC (oC (rowL d) m) := by
        simp only [oC, lC, allC_append, allC_cons, allC_nil, and_true]; exact ⟨⟨rfl, Fm, hl⟩, hff⟩
      have hL := of_loop
      refine FnOk.imp (args' := [nilR, .agg (svF (List.replicate 32 .u8) (atL lk) 0), .ro 1 m (rowL d)]) ?_ ⟨DenImp.refl _, nums_imp hk, by rw [hf]; exact DenImp.refl _, trivial⟩
      refine FnOk.facts fun ⟨_, f1, _⟩ => ?_
      have k1 : KB (atL lk) := fun j hj => by
        have e : (List.replicate 32 IntKind.u8)[j]? = some .u8 := by rw [List.getElem?_replicate, if_pos hj]
        have f1 := facts_svF f1 j .u8 e
        rw [Nat.zero_add] at f1
        exact ⟨f1.1, Int.lt_of_le_of_lt f1.2 (by decide)⟩
      have k2 : KB (kk (atL lk)) := fun j hj => by rw [show kk (atL lk) j = atL lk j from atLF hj]; exact k1 j hj
      have M0 := MS_new k2
      have M := MS_43 (MS_Z M0 hd m (Nat.le_refl _))
      have hi : ∀ j, j < 16 → Byte (atL (hiK (kk (atL lk))) j) := hiB k1
      have hT := MS_tag M hi
      refine FnOk.val (v := .agg (svF (List.replicate 16 .u8) (tgN (ofN (atL lk) d m)) 0)) (C := []) (rd := []) (FnOk.pure gn_ok (of_run (atL lk) d m) ?_) (fun w0 O ρ u h => ?_)
      · refine allC_append.2 ⟨?_, allC_append.2 ⟨hc, ?_⟩⟩
        · simp only [allC_cons, allC_nil, and_true]; exact hL
        · simp only [allC_cons, allC_nil, and_true]; exact ⟨⟨_, _, M0⟩, MS_h M⟩
      · have e : svF (List.replicate 16 .u8) (atL (DT (atL lk) (xZ d m))) 0 = svF (List.replicate 16 .u8) (tgN (ofN (atL lk) d m)) 0 := svF_cg _ 0 fun j hj => by
          rw [List.length_replicate] at hj
          rw [Nat.zero_add, DT, ← hT]
          exact atLF hj
        rw [e]; exact h
    · simp at h
  · simp at h
noncomputable abbrev gs : Ctx := gn.add [(16, F16), (17, F17), (47, eqArrF 16)]
theorem gs_ok : CtxU gs := gn_ok.add mixed noGo (by
  intro x hx
  simp only [List.mem_cons, List.not_mem_nil, or_false] at hx
  rcases hx with rfl | rfl | rfl
  · exact acc16
  · exact acc17
  · exact Acc.of (g := g0) rfl rfl acc47)
theorem check_run (k t : Nat → Int) (d : Nat → List Int) (m : Nat) : runF gs 900 [] 18 [nilR, .agg (svF (List.replicate 32 .u8) k 0), .agg (svF (List.replicate 16 .u8) t 0), .ro 1 m (rowL d)] [] [] =
    some (.sbool (decide ((if listF 16 (atL (DT (kk k) (xZ d m))) 0 = listF 16 t 0 then (1 : Int) else 0) = 1)), [], oC (rowL d) m) :=
  run_parts (by kernel_rfl) (by kernel_rfl) (by kernel_rfl)
end Go.Proofs.Ytejcjdhplpjpjaa

namespace Go.Proofs.Ytejcjdhplpjpjaa
open Go Go.Vx
/-! ### MacTwo: the account -/
abbrev n32 (k : Nat → Int) : List Int := listF 32 k 0
noncomputable abbrev a2E (q : Nat) (k : Nat → Int) (d : Nat → List Int) (m : Nat) : Nat → Int := aQ q (atL (nwL (kk k))) d m
noncomputable abbrev twF (p : Nat → Bool) (d : Nat → List Int) (m : Nat) (k l : Nat → Int) : List Prop :=
  [rowY p d = rowY (pOf (rowY p d)) (dOf (rowY p d)), Fits .i64 (m : Int), ∀ i, i < m → factsC (rowY p d i), m ≤ 400, KB (kk k), KB (kk l), MK (kk k) [] (atL (nwL (kk k))), MK (kk l) [] (atL (nwL (kk l)))]
theorem two_run0 (p : Nat → Bool) (d : Nat → List Int) (m : Nat) (k l : Nat → Int) : runF gt 900 [.br false, .loop 10 twKeep 4 (.exit 0) (mkLoopN twG0), .br true, .br true] 3 [.agg (svF (List.replicate 32 .u8) k 0), .agg (svF (List.replicate 32 .u8) l 0), .ro 2 m (rowY p d)] [] [] =
    some (.sbool true, [], [Fits .i64 (m : Int), decide ((400 : Int) < (m : Int)) = false, LoopGood gt 109 (.loop twBody) twKeep 4 (.exit 0) (mkLoopN twG0)] ++ (twF p d m k l ++ [sp2 d m = m, decide (Tg (a2E 1 l d m) = Dg l (xQ 1 d m)) = true, (xQ 1 d m).length = (xQ 1 d m).length, (xQ 1 d m).length ≤ 140737488355328, 0 ≤ n43 (a2E 1 l d m) 42 ∧ n43 (a2E 1 l d m) 42 < 16,
      decide (Tg (a2E 0 k d m) = Dg k (xQ 0 d m)) = true, (xQ 0 d m).length = (xQ 0 d m).length, (xQ 0 d m).length ≤ 140737488355328, 0 ≤ n43 (a2E 0 k d m) 42 ∧ n43 (a2E 0 k d m) 42 < 16])) :=
  run_parts (by kernel_rfl) (by kernel_rfl) (by kernel_rfl)
theorem two_run1 (p : Nat → Bool) (d : Nat → List Int) (m : Nat) (k l : Nat → Int) : runF gt 900 [.br false, .loop 10 twKeep 4 .ret (mkLoopN twG1)] 3 [.agg (svF (List.replicate 32 .u8) k 0), .agg (svF (List.replicate 32 .u8) l 0), .ro 2 m (rowY p d)] [] [] =
    some (.bool true, [], [Fits .i64 (m : Int), decide ((400 : Int) < (m : Int)) = false, LoopGood gt 109 (.loop twBody) twKeep 4 .ret (mkLoopN twG1)] ++ (twF p d m k l ++ [sp2 d m < m, Fits .i64 ((d (sp2 d m)).length : Int)])) :=
  run_parts (by kernel_rfl) (by kernel_rfl) (by kernel_rfl)
theorem two_run2 (p : Nat → Bool) (d : Nat → List Int) (m : Nat) (k l : Nat → Int) : runF gt 900 [.br true] 3 [.agg (svF (List.replicate 32 .u8) k 0), .agg (svF (List.replicate 32 .u8) l 0), .ro 2 m (rowY p d)] [] [] =
    some (.bool true, [], [Fits .i64 (m : Int), decide ((400 : Int) < (m : Int)) = true]) :=
  run_parts (by kernel_rfl) (by kernel_rfl) (by kernel_rfl)
theorem KB_kk {k : Nat → Int} (h : KB k) : KB (kk k) := fun j hj => by rw [show kk k j = k j from atLF hj]; exact h j hj
theorem key_bytes {k : Nat → Int} (hf : factsC (.agg (svF (List.replicate 32 .u8) k 0))) : KB k := fun j hj => by
  have e : (List.replicate 32 IntKind.u8)[j]? = some .u8 := by rw [List.getElem?_replicate, if_pos hj]
  have f1 := facts_svF hf j .u8 e
  rw [Nat.zero_add] at f1
  exact ⟨f1.1, Int.lt_of_le_of_lt f1.2 (by decide)⟩
theorem tag_eq' {k : Nat → Int} {x : List Int} {a : Nat → Int} (hk : KB k) (h : MK k x a) : decide (Tg a = Dg k x) = true := by
  have := tag_eq hk h
  cases e : decide (Tg a = Dg k x) with
  | true => rfl
  | false => rw [e] at this; simp at this
theorem two_ok (k l : Nat → Int) (m : Nat) (a : Nat → Nat → Int) (d : Nat → Nat → List Int) (Fm : Fits .i64 (m : Int)) (hl : ∀ i j, Fits .i64 ((d i j).length : Int)) (hf : ∀ i, i < m → factsC (.agg (svY [.b, .s .u8] (a i) (d i) 0))) :
    FnOk gt 3 [.agg (svF (List.replicate 32 .u8) k 0), .agg (svF (List.replicate 32 .u8) l 0), .ro 2 m fun i => .agg (svY [.b, .s .u8] (a i) (d i) 0)] [] { val := .bool true } := by
  show FnOk gt 3 [.agg (svF (List.replicate 32 .u8) k 0), .agg (svF (List.replicate 32 .u8) l 0), .ro 2 m (rowY (fun i => decide (a i 0 = 1)) (fun i => d i 1))] [] { val := .bool true }
  have hf' : ∀ i, i < m → factsC (rowY (fun i => decide (a i 0 = 1)) (fun i => d i 1) i) := hf
  have hl' : ∀ i, Fits .i64 (((fun i => d i 1) i).length : Int) := fun i => hl i 1
  generalize (fun i => decide (a i 0 = 1)) = p at *
  generalize (fun i => d i 1) = e at *
  have hL0 := tw_loop0
  have hL1 := tw_loop1
  refine FnOk.facts fun ⟨f1, f2, _⟩ => ?_
  have k1 := key_bytes f1
  have k2 := key_bytes f2
  by_cases h4 : 400 < m
  · exact FnOk.pure gt_ok (two_run2 p e m k l) (by simp only [allC_cons, allC_nil, and_true]; exact ⟨Fm, decide_eq_true (by omega)⟩)
  · have hc : AllC (twF p e m k l) := by
      simp only [twF, allC_cons, allC_nil, and_true]
      exact ⟨rfl, Fm, hf', by omega, KB_kk k1, KB_kk k2, MK_new k1, MK_new k2⟩
    have h0 : decide ((400 : Int) < (m : Int)) = false := decide_eq_false (by omega)
    have hle := sp2_le e m
    by_cases hs : sp2 e m = m
    · refine FnOk.ofSb (b := true) (FnOk.pure gt_ok (two_run0 p e m k l) ?_) rfl
      refine allC_append.2 ⟨?_, allC_append.2 ⟨hc, ?_⟩⟩
      · simp only [allC_cons, allC_nil, and_true]; exact ⟨Fm, h0, hL0⟩
      · have hd := rowY_bytes (f := rowY p e) rfl hf'
        have A : MK k (xQ 0 e m) (a2E 0 k e m) := by
          have := MS_Q 0 (MK_new k1) hd m (Nat.le_refl _)
          rw [kk_kk] at this; exact this
        have B : MK l (xQ 1 e m) (a2E 1 l e m) := by
          have := MS_Q 1 (MK_new k2) hd m (Nat.le_refl _)
          rw [kk_kk] at this; exact this
        have hx := xQ_len (d := e) (m := m) m (by omega)
        simp only [allC_cons, allC_nil, and_true]
        exact ⟨hs, tag_eq' k2 B, trivial, by omega, MS_h (MS_43 B), tag_eq' k1 A, trivial, by omega, MS_h (MS_43 A)⟩
    · refine FnOk.pure gt_ok (two_run1 p e m k l) ?_
      refine allC_append.2 ⟨?_, allC_append.2 ⟨hc, ?_⟩⟩
      · simp only [allC_cons, allC_nil, and_true]; exact ⟨Fm, h0, hL1⟩
      · simp only [allC_cons, allC_nil, and_true]; exact ⟨by omega, hl' _⟩
end Go.Proofs.Ytejcjdhplpjpjaa

namespace Go.Proofs.Ytejcjdhplpjpjaa
open Go Go.Vx
/-! ### Of of one piece -/
noncomputable abbrev ofO1 (k : Nat → Int) (x : List Int) : Nat → Int := n43 (wrA (atL (nwL (kk k))) x)
theorem of1_run (k : Nat → Int) (x : List Int) : runF gn 900 [.br true, .fix 0, .br false] 16 [nilR, .agg (svF (List.replicate 32 .u8) k 0), .sl 0 1 0 1 0 1 true] [.cells [.roi .u8 x]] [] =
    some (.agg (svF (List.replicate 16 .u8) (tgN (ofO1 k x)) 0), [some (.cells [.roi .u8 x])], [true = true, 0 ≤ atL (nwL (kk k)) 42 ∧ atL (nwL (kk k)) 42 < 16, x.length ≤ 140737488355328, (0 : Int) = 0, false = false, 0 ≤ ofO1 k x 42 ∧ ofO1 k x 42 < 16]) :=
  run_parts (by kernel_rfl) (by kernel_rfl) (by kernel_rfl)
noncomputable def F16s : SumF := fun args B => match args, B with
  | [.raw (.pointer none), .agg ks, .sl 0 1 0 1 0 1 true], [.cells [.roi K x]] => match numsAs (List.replicate 32 .u8) ks, sameK K .u8 with
    | some lk, true => some { val := .agg (svF (List.replicate 16 .u8) (atL (DT (atL lk) x)) 0), C := [x.length ≤ 140737488355328, Bytes x] }
    | _, _ => none
  | _, _ => none
theorem acc16s : Acc gn 16 F16s := by
  intro args B out h hC
  unfold F16s at h
  split at h
  · rename_i ks K x
    split at h
    · rename_i lk hk hK
      obtain rfl := kidx_inj hK
      simp only [Option.some.injEq] at h; subst h
      simp only [allC_cons, allC_nil, and_true] at hC
      obtain ⟨hx, hb⟩ := hC
      refine FnOk.imp (args' := [nilR, .agg (svF (List.replicate 32 .u8) (atL lk) 0), .sl 0 1 0 1 0 1 true]) ?_ ⟨DenImp.refl _, nums_imp hk, DenImp.refl _, trivial⟩
      refine FnOk.facts fun ⟨_, f1, _⟩ => ?_
      have k1 := key_bytes f1
      have M0 := MS_new (KB_kk k1)
      have M := MS_43 (MS_write M0 hb)
      have hT := MS_tag M (hiB k1)
      refine FnOk.val (v := .agg (svF (List.replicate 16 .u8) (tgN (ofO1 (atL lk) x)) 0)) (C := []) (rd := []) ?_ (fun w0 O ρ u h => ?_)
      · exact FnOk.run (new := []) gn_ok (of1_run (atL lk) x) (by simp only [allC_cons, allC_nil, and_true]; exact ⟨trivial, MS_h M0, hx, trivial, trivial, MS_h M⟩) (by simp [upto]) rfl (by simp) (by simp) (fun j hj => by
          match j, hj with
          | 0, _ => rfl)
      · have e : svF (List.replicate 16 .u8) (atL (DT (atL lk) x)) 0 = svF (List.replicate 16 .u8) (tgN (ofO1 (atL lk) x)) 0 := svF_cg _ 0 fun j hj => by
          rw [List.length_replicate] at hj
          have hT2 : listF 16 (tgN (ofO1 (atL lk) x)) 0 = dTag (kT (kk (atL lk))) (atL (hiK (kk (atL lk)))) x := hT
          rw [Nat.zero_add, DT, ← hT2]
          exact atLF hj
        rw [e]; exact h
    · simp at h
  · simp at h
noncomputable abbrev gz : Ctx := gs.add [(16, oneOf F16 F16s)]
theorem gz_ok : CtxU gz := gs_ok.add mixed noGo (by
  intro x hx
  simp only [List.mem_cons, List.not_mem_nil, or_false] at hx
  rcases hx with rfl
  exact Acc.of (g := gn) rfl rfl (acc_one acc16 acc16s))
end Go.Proofs.Ytejcjdhplpjpjaa
