/- Accounts of this seat's functions: lemmas, no statement of their own. No conditions. -/
import Derived.Test.YthciddlfnajchaaDoorTSc
import Derived.Test.YthciddlfnajchaaDoorV5
namespace Go.Proofs.Tryd
open Go Go.Vx
/-! ### Of, without a Recorder -/
noncomputable abbrev rowL (d : Nat → List Int) : Nat → SV := fun i => .roi .u8 (d i)
def lOf (f : Nat → SV) (i : Nat) : List Int := match f i with | .roi _ l => l | _ => []
abbrev LB (d : Nat → List Int) (m : Nat) : Prop := ∀ i, i < m → (d i).length ≤ 140737488351232
noncomputable abbrev oC (f : Nat → SV) (m : Nat) : List Prop := [f = rowL (lOf f), Fits .i64 (m : Int), LB (lOf f) m]
noncomputable abbrev b32 (x : Nat → Int) : List SV := svF (List.replicate 32 .u8) x 0
abbrev ofKeep : List Nat := [0, 1, 4, 5, 7]
noncomputable abbrev ofBody : Code := bodyAt Tryd.prog 17 3
noncomputable abbrev ofO (d : Nat → List Int) (m : Nat) (i : Int) : List SV := [nilR, .ro 1 m (rowL d), .ptr 0 0, .ptr 1 0, .int .i64 i]
noncomputable abbrev ofS (d : Nat → List Int) (m i : Nat) : List (Nat × SV) := ofKeep.zip (ofO d m (i : Int))
noncomputable abbrev ofB (z a : Nat → Int) : List Body := [.cells (b32 z), dgV nilR a]
theorem of_go (d : Nat → List Int) (m i : Nat) (z a : Nat → Int) : runC g5 300 35 [.br true] ofBody (ofS d m i) (ofB z a) ofKeep [0, 1] =
    some (.normal, ofO d m ((i : Int) + 1), (ofB z (wrA (n75 a) (d i))).map some, [Fits .i64 (m : Int), decide ((i : Int) < (m : Int)) = true, 0 ≤ n75 a 74 ∧ n75 a 74 ≤ 64, (d i).length ≤ 140737488355328, (0 : Int) ≤ (i : Int) ∧ (i : Int) < (m : Int), Fits .i64 ((i : Int) + 1)]) :=
  r3_parts4 (by kernel_rfl) (by kernel_rfl) (by kernel_rfl) (by kernel_rfl)
theorem of_end (d : Nat → List Int) (m i : Nat) (z a : Nat → Int) : runC g5 300 35 [.br false] ofBody (ofS d m i) (ofB z a) ofKeep [0, 1] =
    some (.exit 0, ofO d m (i : Int), (ofB z a).map some, [Fits .i64 (m : Int), decide ((i : Int) < (m : Int)) = false]) :=
  r3_parts4 (by kernel_rfl) (by kernel_rfl) (by kernel_rfl) (by kernel_rfl)
noncomputable def ofG : LoopF := fun vals B => match vals, B with
  | [.raw (.pointer none), .ro 1 m f, .ptr 0 0, .ptr 1 0, .int .i64 0], [.cells zs, .cells ms] => match numsAs (List.replicate 32 .u8) zs, dgAs ms, headK (ms.take 1) with
    | some lz, some la, .nil => some ([(4, .ptr 0 0), (5, .ptr 1 0)], ofB (atL lz) (aZ (atL la) (lOf f) m), oC f m ++ [OkA (atL la)])
    | _, _, _ => none
  | _, _ => none
theorem of_loop : LoopGood g5 35 (.loop ofBody) ofKeep 2 (.exit 0) (mkLoopN ofG) := by
  refine LoopGood.mkN (by decide) fun vals B S' B' C hG hC hlen w0 O hgl => ?_
  clear hlen
  unfold ofG at hG
  split at hG
  · rename_i m f zs ms
    split at hG
    · rename_i lz la hz ha hr
      have hr := head_nil hr
      simp only [Option.some.injEq, Prod.mk.injEq] at hG
      obtain ⟨rfl, rfl, rfl⟩ := hG
      simp only [oC, allC_append, allC_cons, allC_nil, and_true] at hC
      obtain ⟨⟨hf, Fm, hl⟩, h0⟩ := hC
      generalize lOf f = d at *
      rw [hf]
      clear hf
      have hm : (m : Int) ≤ 9223372036854775807 := Fm.2
      refine SimC.preI (B1 := ofB (atL lz) (atL la)) ?_ ⟨cells_nums hz, cells_dg ha hr rfl, trivial⟩
      show SimC _ _ _ _ _ (ofS d m 0) (ofB (atL lz) (aZ (atL la) d 0)) _ _ _ _
      refine SimC.iter (g := g5) (e := .exit 0) (S := fun i => ofS d m i) (B := fun i => ofB (atL lz) (aZ (atL la) d i)) (N := m) (fun i hi => ?_) ?_ (by simp) 0 (by omega)
      · have hli := hl i hi
        refine SimC.run (B' := ofB (atL lz) (aZ (atL la) d (i + 1))) g5_ok (by decide) (of_go d m i _ _) ?_ (by decide) i2 (by decide) (by simp) hgl
        simp only [allC_cons, allC_nil, and_true]
        exact ⟨Fm, decide_eq_true (by omega), ((h0.aZ d i).n).1, by omega, ⟨by omega, by omega⟩, fits_of (by omega) (by omega)⟩
      · exact SimC.weaken (SimC.run (B' := ofB (atL lz) (aZ (atL la) d m)) g5_ok (by decide) (of_end d m m _ _) (by simp only [allC_cons, allC_nil, and_true]; exact ⟨Fm, decide_eq_false (by omega)⟩) (by decide) i2 (by decide) (by simp) hgl) (sub_mkT (by simp; exact ⟨rfl, rfl⟩))
    · simp at hG
  · simp at hG
noncomputable abbrev ofN (d : Nat → List Int) (m : Nat) : Nat → Int := n75 (aZ (n75 (nwA 32 [])) d m)
/-- a list of at most 32 bytes in the place of noughts -/
def cp32 (L : List Int) (n : Nat) (j : Nat) : Int := if 0 ≤ j ∧ j < 0 + ((((L.drop (0 + 0)).take n)).take (32 - 0)).length then ((((L.drop (0 + 0)).take n)).take (32 - 0)).getD (j - 0) 0 else 0
noncomputable abbrev of1A (x : List Int) : Nat → Int := n75 (wrA (n75 (nwA 32 [])) x)
abbrev ofE (a : Nat → Int) : List Prop := [Fits .i64 ((min ((((dgL a).drop (0 + 0)).take (a 0).toNat)).length (32 - 0) : Nat) : Int), 0 + ((((dgL a).drop (0 + 0)).take (a 0).toNat).take (32 - 0)).length ≤ 32, 0 + 0 + (a 0).toNat ≤ (dgL a).length, 0 ≤ a 74 ∧ a 74 ≤ 64, 0 ≤ a 0 ∧ a 0 ≤ 32]
theorem of_run (d : Nat → List Int) (m : Nat) : runF g5 900 [.loop 3 ofKeep 2 (.exit 0) (mkLoopN ofG)] 17 [nilR, .ro 1 m (rowL d)] [] [] =
    some (.agg (b32 (cp32 (dgL (ofN d m)) (ofN d m 0).toNat)), [], [(1 : Int) ≤ 32, (32 : Int) ≤ 32, LoopGood g5 35 (.loop ofBody) ofKeep 2 (.exit 0) (mkLoopN ofG), rowL d = rowL (lOf (rowL d)), Fits .i64 (m : Int), LB d m, OkA (n75 (nwA 32 []))] ++ ofE (ofN d m)) :=
  run_parts (by kernel_rfl) (by kernel_rfl) (by kernel_rfl)
theorem of1_run (x : List Int) : runF g5 900 [.br true, .fix 0, .br false] 17 [nilR, .sl 0 1 0 1 0 1 true] [.cells [.roi .u8 x]] [] =
    some (.agg (b32 (cp32 (dgL (of1A x)) (of1A x 0).toNat)), [some (.cells [.roi .u8 x])], [(1 : Int) ≤ 32, (32 : Int) ≤ 32, true = true, 0 ≤ n75 (nwA 32 []) 74 ∧ n75 (nwA 32 []) 74 ≤ 64, x.length ≤ 140737488355328, (0 : Int) = 0, false = false] ++ ofE (of1A x)) :=
  run_parts (by kernel_rfl) (by kernel_rfl) (by kernel_rfl)
theorem HS_Z {n : Int} {k : List Int} {d : Nat → List Int} {m : Nat} {a : Nat → Int} (h0 : HS n k [] a) (hk : k.length ≤ 32) (hb : (xZ d m).length ≤ 1000000000) : ∀ i, i ≤ m → HS n k (xZ d i) (aZ a d i)
  | 0, _ => h0
  | i + 1, h => by
    have ih := HS_Z h0 hk hb i (by omega)
    have mono : ∀ j, i + 1 ≤ j → (xZ d (i + 1)).length ≤ (xZ d j).length := fun j hj => by
      induction j with
      | zero => omega
      | succ j ihj =>
        by_cases c : i + 1 = j + 1
        · rw [c]; exact Nat.le_refl _
        · have := ihj (by omega)
          have e : (xZ d (j + 1)).length = (xZ d j).length + (d j).length := by simp [xZ]
          omega
    have hm := mono m h
    have e : (xZ d (i + 1)).length = (xZ d i).length + (d i).length := by simp [xZ]
    exact HS_write (HT_75 ih) hk (by omega)
/-- the digest of 32 bytes, without a key -/
noncomputable abbrev D32 (x : List Int) : List Int := dSum 32 [] (allL [] x)
theorem D32_len (x : List Int) : (D32 x).length = 32 := listF_length _ _ _
theorem cp32_at {L : List Int} (h : L.length = 32) (j : Nat) (hj : j < 32) : cp32 L 32 j = atL L j := by
  unfold cp32
  have e : (((L.drop (0 + 0)).take 32)).take (32 - 0) = L := by
    rw [List.drop_zero, List.take_of_length_le (by rw [List.length_take]; omega), List.take_of_length_le (by omega)]
  rw [e, if_pos ⟨Nat.zero_le _, by omega⟩]; rfl
theorem ofE_ok {a : Nat → Int} (h : OkA a) : AllC (ofE a) := by
  have hl := dgL_len h.2
  have h0 := h.2
  have hh : ((((dgL a).drop (0 + 0)).take (a 0).toNat)).length = (a 0).toNat := by rw [List.drop_zero, List.length_take]; omega
  simp only [ofE, allC_cons, allC_nil, and_true]
  refine ⟨?_, ?_, by omega, h.1, h.2⟩
  · rw [hh]; exact fits_of (by omega) (by omega)
  · rw [List.length_take, hh]; omega
theorem new32 : HS 32 [] [] (n75 (nwA 32 [])) := HT_75 (HT_new (by decide) (by decide) (Nat.zero_le _))
theorem ok32 : OkA (n75 (nwA 32 [])) := HT_ok new32 (by decide) (by decide)
theorem of_val {x : List Int} {a : Nat → Int} (h : HS 32 [] x a) (hb : x.length ≤ 1000000000) : b32 (cp32 (dgL (n75 a)) (n75 a 0).toNat) = b32 (atL (D32 x)) := svF_congr _ 0 fun j hj => by
  have M := HT_75 h
  rw [Nat.zero_add]
  have e := HS_dg M (Nat.zero_le _) (by decide) (by decide) (by omega)
  have es : (n75 a 0).toNat = 32 := by rw [M.size]; rfl
  rw [es, e]
  exact cp32_at (D32_len x) j (by simpa using hj)
noncomputable def F17 : SumF := fun args B => match args, B with
  | [.raw (.pointer none), .ro 1 m f], [] => some { val := .agg (b32 (atL (D32 (xZ (lOf f) m)))), C := oC f m ++ [(xZ (lOf f) m).length ≤ 1000000000] }
  | _, _ => none
theorem acc17 : Acc g5 17 F17 := by
  intro args B out h hC
  unfold F17 at h
  split at h
  · rename_i m f
    simp only [Option.some.injEq] at h; subst h
    simp only [oC, allC_append, allC_cons, allC_nil, and_true] at hC
    obtain ⟨⟨hf, Fm, hl⟩, hb⟩ := hC
    generalize lOf f = d at *
    have hL := of_loop
    refine FnOk.imp (args' := [nilR, .ro 1 m (rowL d)]) ?_ ⟨DenImp.refl _, by rw [hf]; exact DenImp.refl _, trivial⟩
    have M := HS_Z (m := m) new32 (Nat.zero_le _) hb m (Nat.le_refl _)
    have o := HT_ok (HT_75 M) (by decide) (by decide)
    have hr := of_run d m
    rw [of_val M hb] at hr
    refine FnOk.val (FnOk.pure g5_ok hr (allC_append.2 ⟨?_, ofE_ok o⟩)) (fun _ _ _ _ h => h)
    simp only [allC_cons, allC_nil, and_true]
    exact ⟨by decide, by decide, hL, rfl, Fm, hl, ok32⟩
  · simp at h
noncomputable def F17s : SumF := fun args B => match args, B with
  | [.raw (.pointer none), .sl 0 1 0 1 0 1 true], [.cells [.roi K x]] => match sameK K .u8 with
    | true => some { val := .agg (b32 (atL (D32 x))), upd := [(0, some (.cells [.roi .u8 x]))], C := [x.length ≤ 1000000000] }
    | false => none
  | _, _ => none
theorem acc17s : Acc g5 17 F17s := by
  intro args B out h hC
  unfold F17s at h
  split at h
  · rename_i K x
    split at h
    · rename_i hK
      obtain rfl := kidx_inj hK
      simp only [Option.some.injEq] at h; subst h
      simp only [allC_cons, allC_nil, and_true] at hC
      have M : HS 32 [] x (wrA (n75 (nwA 32 [])) x) := HS_write new32 (Nat.zero_le _) (by show 0 + x.length ≤ _; omega)
      have o := HT_ok (HT_75 M) (by decide) (by decide)
      have hr := of1_run x
      rw [of_val M hC] at hr
      refine FnOk.val (FnOk.run (out := { val := .agg (b32 (atL (D32 x))), upd := [(0, some (.cells [.roi .u8 x]))] }) (new := []) g5_ok hr (allC_append.2 ⟨?_, ofE_ok o⟩) (by simp [upto]) rfl (by simp) (by simp) (fun j hj => by
        match j, hj with
        | 0, _ => rfl)) (fun _ _ _ _ h => h)
      simp only [allC_cons, allC_nil, and_true, true_and]
      exact ⟨by decide, by decide, ok32.1, by omega⟩
    · simp at h
  · simp at h
/-- two rows of bytes that are one, the other one an array's beginning -/
def F16c : SumF := fun args B => match args, B with
  | [x, .sl 1 _ ob 1 0 nb _], [.ints K la, .cells cs] => match sameK K .u8, numsAs (List.replicate cs.length .u8) cs, vwI 0 la x with
    | true, some lb, some (oa, na) => some { val := .sbool true, upd := [(1, some (.cells (svF (List.replicate lb.length .u8) (atL lb) 0)))], C := [oa + na ≤ la.length, ob + nb ≤ lb.length, na ≤ 140737488355328, subI la oa na = subI lb ob nb] }
    | _, _, _ => none
  | _, _ => none
theorem acc16c : Acc g1 16 F16c := by
  intro args B out h hC
  unfold F16c at h
  split at h
  · rename_i x m ob nb kn K la cs
    split at h
    · rename_i lb oa na hK hl hx
      obtain rfl := kidx_inj hK
      simp only [Option.some.injEq] at h; subst h
      refine FnOk.asInts (i := 1) (out := { val := .sbool true, C := [oa + na ≤ la.length, ob + nb ≤ lb.length, na ≤ 140737488355328, subI la oa na = subI lb ob nb] }) rfl hl (acc16 _ _ _ ?_ hC) rfl rfl rfl (fun j => ?_)
      · show F16 [x, .sl 1 m ob 1 0 nb kn] [.ints .u8 la, .ints .u8 lb] = _
        simp only [F16, hx, show vwI 1 lb (.sl 1 m ob 1 0 nb kn) = some (ob, nb) from rfl, show sameK IntKind.u8 IntKind.u8 = true from rfl]
      · match j with
        | 0 => rfl
        | 1 => rfl
        | j + 2 => rfl
    · simp at h
  · simp at h
noncomputable abbrev gz (p : Addr) : Ctx := (gA p).add [(17, roW (oneOf F17 F17s)), (16, oneOf F16 F16c)]
theorem gz_ok (p : Addr) : CtxU (gz p) := (gT_ok p _).add mixed noGo (by
  intro x hx
  simp only [List.mem_cons, List.not_mem_nil, or_false] at hx
  rcases hx with rfl | rfl
  · exact Acc.of (g := g5.gl (eV p)) rfl rfl (Acc.gl (fun _ => rfl) (acc_roW (acc_one acc17 acc17s)))
  · exact Acc.of (g := g1.gl (eV p)) rfl rfl (Acc.gl (fun _ => rfl) (acc_one acc16 acc16c)))
end Go.Proofs.Tryd

namespace Go.Proofs.Tryd
open Go Go.Vx
/-! ### roomy -/
def rmF (la : List Int) (i : Nat) : Int := if i < la.length then la.getD i 0 else markN i
abbrev rmKeep : List Nat := [0, 3, 4]
noncomputable abbrev rmBody : Code := bodyAt Tryd.prog 19 3
abbrev rmS (la : List Int) (m n i : Nat) : List (Nat × SV) := rmKeep.zip [.roi .u8 la, .sl 0 m 0 1 0 n false, .int .i64 (i : Int)]
theorem rm_go1 (m n i : Nat) (la lb : List Int) : runC g1 200 34 [.br true, .br true] rmBody (rmS la m n i) [.ints .u8 lb] rmKeep [0] =
    some (.normal, [.roi .u8 la, .sl 0 m 0 1 0 n false, .int .i64 ((i : Int) + 1)], [some (.ints .u8 ((lb.set (0 + i + 0) (markN i)).set (0 + i + 0) (la.getD i 0)))], [Fits .i64 (n : Int), decide ((i : Int) < (n : Int)) = true, 0 + i + 0 < lb.length, (0 : Int) ≤ (i : Int) ∧ (i : Int) < (n : Int), Fits .i64 (161 + (i : Int).tmod 7), Fits .i64 (la.length : Int), decide ((i : Int) < (la.length : Int)) = true,
      0 + i + 0 < (lb.set (0 + i + 0) (markN i)).length, (0 : Int) ≤ (i : Int) ∧ (i : Int) < (n : Int), (0 : Int) ≤ (i : Int) ∧ (i : Int) < (la.length : Int), Fits .i64 ((i : Int) + 1)]) := by kernel_rfl
theorem rm_go0 (m n i : Nat) (la lb : List Int) : runC g1 200 34 [.br true, .br false] rmBody (rmS la m n i) [.ints .u8 lb] rmKeep [0] =
    some (.normal, [.roi .u8 la, .sl 0 m 0 1 0 n false, .int .i64 ((i : Int) + 1)], [some (.ints .u8 (lb.set (0 + i + 0) (markN i)))], [Fits .i64 (n : Int), decide ((i : Int) < (n : Int)) = true, 0 + i + 0 < lb.length, (0 : Int) ≤ (i : Int) ∧ (i : Int) < (n : Int), Fits .i64 (161 + (i : Int).tmod 7), Fits .i64 (la.length : Int), decide ((i : Int) < (la.length : Int)) = false, Fits .i64 ((i : Int) + 1)]) := by kernel_rfl
theorem rm_end (m n i : Nat) (la lb : List Int) : runC g1 200 34 [.br false] rmBody (rmS la m n i) [.ints .u8 lb] rmKeep [0] =
    some (.exit 0, [.roi .u8 la, .sl 0 m 0 1 0 n false, .int .i64 (i : Int)], [some (.ints .u8 lb)], [Fits .i64 (n : Int), decide ((i : Int) < (n : Int)) = false]) := by kernel_rfl
def rmG : LoopF := fun vals B => match vals, B with
  | [.roi K2 la, .sl 0 m 0 1 0 n false, .int .i64 0], [.ints K lb] => match sameK K .u8, sameK K2 .u8 with
    | true, true => some ([(3, .sl 0 m 0 1 0 n false)], [.ints .u8 (roomL la)], [n = la.length + 70, n ≤ 140737488355328, lb = List.replicate n 0])
    | _, _ => none
  | _, _ => none
theorem tmod_fits (i : Nat) : Fits .i64 (161 + (i : Int).tmod 7) := by
  rw [Int.tmod_eq_emod_of_nonneg (by omega)]
  exact fits_of (by omega) (by omega)
theorem rm_loop : LoopGood g1 34 (.loop rmBody) rmKeep 1 (.exit 0) (mkLoopN rmG) := by
  refine LoopGood.mkN (by decide) fun vals B S' B' C hG hC hlen w0 O hgl => ?_
  clear hlen
  unfold rmG at hG
  split at hG
  · rename_i K2 la m n K lb
    split at hG
    · rename_i hK hK2
      obtain rfl := kidx_inj hK
      obtain rfl := kidx_inj hK2
      simp only [Option.some.injEq, Prod.mk.injEq] at hG
      obtain ⟨rfl, rfl, rfl⟩ := hG
      simp only [allC_cons, allC_nil, and_true] at hC
      obtain ⟨h1, h2, rfl⟩ := hC
      have F1 : Fits .i64 (n : Int) := fits_small h2
      have F3 : Fits .i64 (la.length : Int) := fits_small (by omega)
      have key := SimC.iter (g := g1) (nT := 34) (c := rmBody) (m := 1) (w0 := w0) (O := O) (e := .exit 0) (S := rmS la m n) (B := fun i => [.ints .u8 (partF (rmF la) n i)]) (N := n) (S' := [(3, .sl 0 m 0 1 0 n false)]) (B' := [.ints .u8 (roomL la)]) (fun i hi => ?_) ?_ (by simp) 0 (by omega)
      · rw [partF_zero] at key; exact key
      · have F2 : Fits .i64 ((i : Int) + 1) := fits_of (by omega) (by omega)
        have F4 := tmod_fits i
        have hl := partF_len (rmF la) n i
        by_cases hc : i < la.length
        · have hr := rm_go1 m n i la (partF (rmF la) n i)
          have e : rmF la i = la.getD i 0 := if_pos hc
          simp only [Nat.zero_add, Nat.add_zero, set_set] at hr
          rw [← e, partF_set _ hi] at hr
          have q : i < ((partF (rmF la) n i).set i (markN i)).length := by rw [List.length_set, hl]; exact hi
          exact SimC.run (B' := [.ints .u8 (partF (rmF la) n (i + 1))]) g1_ok (by decide) hr (by rw [hl]; (simp only [allC_cons, allC_nil, and_true]; repeat' (with_reducible (first | refine And.intro ?_ ?_ | exact True.intro | assumption | omega | exact decide_eq_true (by first | assumption | omega) | exact decide_eq_false (by first | assumption | omega) | rfl | (simp; done))))) (by decide) b1 (by decide) (by simp) hgl
        · have hr := rm_go0 m n i la (partF (rmF la) n i)
          have e : rmF la i = markN i := if_neg hc
          simp only [Nat.zero_add, Nat.add_zero] at hr
          rw [← e, partF_set _ hi] at hr
          exact SimC.run (B' := [.ints .u8 (partF (rmF la) n (i + 1))]) g1_ok (by decide) hr (by rw [hl]; (simp only [allC_cons, allC_nil, and_true]; repeat' (with_reducible (first | refine And.intro ?_ ?_ | exact True.intro | assumption | omega | exact decide_eq_true (by first | assumption | omega) | exact decide_eq_false (by first | assumption | omega) | rfl | (simp; done))))) (by decide) b1 (by decide) (by simp) hgl
      · have e : partF (rmF la) n n = roomL la := by
          have := partF_all (rmF la) (roomL la) fun p hp => by
            rw [roomL_len] at hp
            rw [roomL_get la hp]; rfl
          rw [roomL_len, ← h1] at this
          exact this
        have hr := rm_end m n n la (partF (rmF la) n n)
        rw [e] at hr ⊢
        exact SimC.weaken (SimC.run (B' := [.ints .u8 (roomL la)]) g1_ok (by decide) hr (by (simp only [allC_cons, allC_nil, and_true]; repeat' (with_reducible (first | refine And.intro ?_ ?_ | exact True.intro | assumption | omega | exact decide_eq_true (by first | assumption | omega) | exact decide_eq_false (by first | assumption | omega) | rfl | (simp; done))))) (by decide) b1 (by decide) (by simp) hgl) (sub_mkT (by simp; rfl))
    · simp at hG
  · simp at hG
theorem rm_run (la : List Int) : runF g1 200 [.loop 3 rmKeep 1 (.exit 0) (mkLoopN rmG)] 19 [.roi .u8 la] [] [0] =
    some (.sl 0 (la.length + 70) 0 1 0 (la.length + 70) false, [some (.ints .u8 (roomL la))], [(0 : Int) ≤ (la.length : Int) + 70 ∧ (la.length : Int) + 70 = (la.length : Int) + 70 ∧ (la.length + 70) * 1 ≤ 140737488355328, Fits .i64 ((la.length : Int) + 70), Fits .i64 (la.length : Int), LoopGood g1 34 (.loop rmBody) rmKeep 1 (.exit 0) (mkLoopN rmG), la.length + 70 = la.length + 70, la.length + 70 ≤ 140737488355328, List.replicate (la.length + 70) 0 = List.replicate (la.length + 70) (0 : Int)]) :=
  run_parts (by kernel_rfl) (by kernel_rfl) (by kernel_rfl)
def F19 : SumF := fun args B => match args, B with
  | [.roi K la], [] => match sameK K .u8 with
    | true => some { val := .sl 0 (la.length + 70) 0 1 0 (la.length + 70) false, new := [.ints .u8 (roomL la)], C := [la.length ≤ 1000000000] }
    | false => none
  | _, _ => none
theorem acc19 : Acc g1 19 F19 := by
  intro args B out h hC
  unfold F19 at h
  split at h
  · rename_i K la
    split at h
    · rename_i hK
      obtain rfl := kidx_inj hK
      simp only [Option.some.injEq] at h; subst h
      simp only [allC_cons, allC_nil, and_true] at hC
      have F1 : Fits .i64 (la.length : Int) := fits_small (by omega)
      have F2 : Fits .i64 ((la.length : Int) + 70) := fits_of (by omega) (by omega)
      have hl := rm_loop
      refine FnOk.run (new := [0]) g1_ok (rm_run la) (by (simp only [allC_cons, allC_nil, and_true]; repeat' (with_reducible (first | refine And.intro ?_ ?_ | exact True.intro | assumption | omega | exact decide_eq_true (by first | assumption | omega) | exact decide_eq_false (by first | assumption | omega) | rfl | (simp; done))))) (by decide) rfl (by simp) (by simp) ?_
      intro j hj
      match j, hj with
      | 0, _ => rfl
      | j + 1, hj => exact absurd hj (by simp)
    · simp at h
  · simp at h

/-! ### stands -/
abbrev sdKeep : List Nat := [0, 1, 5]
noncomputable abbrev sdBody : Code := bodyAt Tryd.prog 20 2
abbrev sdO (o n : Nat) (l : List Int) (i : Int) : List SV := [.sl 0 0 o 1 0 n false, .roi .u8 l, .int .i64 i]
abbrev sdS (o n : Nat) (l : List Int) (i : Nat) : List (Nat × SV) := sdKeep.zip (sdO o n l (i : Int))
theorem sd_go1 (o n i : Nat) (l w : List Int) : runC g1 300 44 [.br true, .br true, .br false, .br false, .br false] sdBody (sdS o n l i) [.ints .u8 w] sdKeep [0] =
    some (.normal, sdO o n l ((i : Int) + 1), [some (.ints .u8 w)], [Fits .i64 (n : Int), decide ((i : Int) < (n : Int)) = true, decide ((l.length : Int) ≤ (i : Int)) = false, Fits .i64 (l.length : Int), (!decide (w.getD (o + i) 0 = l.getD i 0)) = false, (0 : Int) ≤ (i : Int) ∧ (i : Int) < (l.length : Int), o + i + 0 < w.length, (0 : Int) ≤ (i : Int) ∧ (i : Int) < (n : Int), decide ((i : Int) < (l.length : Int)) = true, Fits .i64 (l.length : Int), Fits .i64 ((i : Int) + 1)]) :=
  r3_parts4 (by kernel_rfl) (by kernel_rfl) (by kernel_rfl) (by kernel_rfl)
theorem sd_go0 (o n i : Nat) (l w : List Int) : runC g1 300 44 [.br true, .br false, .br true, .br false, .br false] sdBody (sdS o n l i) [.ints .u8 w] sdKeep [0] =
    some (.normal, sdO o n l ((i : Int) + 1), [some (.ints .u8 w)], [Fits .i64 (n : Int), decide ((i : Int) < (n : Int)) = true, Fits .i64 (161 + (i : Int).tmod 7), o + i + 0 < w.length, (0 : Int) ≤ (i : Int) ∧ (i : Int) < (n : Int), decide ((l.length : Int) ≤ (i : Int)) = true, Fits .i64 (l.length : Int), decide ((i : Int) < (l.length : Int)) = false, Fits .i64 (l.length : Int), (!decide (w.getD (o + i) 0 = markN i)) = false, Fits .i64 ((i : Int) + 1)]) :=
  r3_parts4 (by kernel_rfl) (by kernel_rfl) (by kernel_rfl) (by kernel_rfl)
theorem sd_end (o n i : Nat) (l w : List Int) : runC g1 300 44 [.br false] sdBody (sdS o n l i) [.ints .u8 w] sdKeep [0] =
    some (.exit 0, sdO o n l (i : Int), [some (.ints .u8 w)], [Fits .i64 (n : Int), decide ((i : Int) < (n : Int)) = false]) :=
  r3_parts4 (by kernel_rfl) (by kernel_rfl) (by kernel_rfl) (by kernel_rfl)
def sdG : LoopF := fun vals B => match vals, B with
  | [.sl 0 0 o 1 0 n false, .roi K2 l, .int .i64 0], [.ints K w] => match sameK K .u8, sameK K2 .u8 with
    | true, true => some ([], [.ints .u8 w], [o + n ≤ w.length, n ≤ 140737488355328, l.length ≤ 140737488355328, n = l.length + 70, subI w o n = roomL l])
    | _, _ => none
  | _, _ => none
theorem sd_loop : LoopGood g1 44 (.loop sdBody) sdKeep 1 (.exit 0) (mkLoopN sdG) := by
  refine LoopGood.mkN (by decide) fun vals B S' B' C hG hC hlen w0 O hgl => ?_
  clear hlen
  unfold sdG at hG
  split at hG
  · rename_i o n K2 l K w
    split at hG
    · rename_i hK hK2
      obtain rfl := kidx_inj hK
      obtain rfl := kidx_inj hK2
      simp only [Option.some.injEq, Prod.mk.injEq] at hG
      obtain ⟨rfl, rfl, rfl⟩ := hG
      simp only [allC_cons, allC_nil, and_true] at hC
      obtain ⟨h1, h2, h3, hn, h4⟩ := hC
      have F1 : Fits .i64 (n : Int) := Go.Vx.fits_small h2
      have F3 : Fits .i64 (l.length : Int) := Go.Vx.fits_small h3
      refine SimC.iter (g := g1) (S := sdS o n l) (B := fun _ => [.ints .u8 w]) (N := n) (fun i hi => ?_) ?_ (by simp) 0 (by omega)
      · have F2 : Fits .i64 ((i : Int) + 1) := fits_of (by omega) (by omega)
        have e : w.getD (o + i) 0 = if i < l.length then l.getD i 0 else markN i := by
          rw [← subI_get (l := w) (o := o) hi, h4]
          exact roomL_get l (by omega)
        by_cases c : i < l.length
        · rw [if_pos c] at e
          refine SimC.run (B' := [.ints .u8 w]) g1_ok (by decide) (sd_go1 o n i l w) ?_ (by decide) b1 (by decide) (by simp) hgl
          simp only [allC_cons, allC_nil, and_true]
          exact ⟨F1, decide_eq_true (by omega), decide_eq_false (by omega), F3, by rw [decide_eq_true e]; rfl, ⟨by omega, by omega⟩, by omega, ⟨by omega, by omega⟩, decide_eq_true (by omega), F3, F2⟩
        · rw [if_neg c] at e
          refine SimC.run (B' := [.ints .u8 w]) g1_ok (by decide) (sd_go0 o n i l w) ?_ (by decide) b1 (by decide) (by simp) hgl
          simp only [allC_cons, allC_nil, and_true]
          exact ⟨F1, decide_eq_true (by omega), tmod_fits i, by omega, ⟨by omega, by omega⟩, decide_eq_true (by omega), F3, decide_eq_false (by omega), F3, by rw [decide_eq_true e]; rfl, F2⟩
      · exact SimC.weaken (SimC.run (B' := [.ints .u8 w]) g1_ok (by decide) (sd_end o n n l w) (by simp only [allC_cons, allC_nil, and_true]; exact ⟨F1, decide_eq_false (by omega)⟩) (by decide) b1 (by decide) (by simp) hgl) (fun t => .inr (by simp [mkT, tget, Tr.get_lf]))
    · simp at hG
  · simp at hG
theorem sd_run (o n : Nat) (l w : List Int) : runF g1 300 [.loop 2 sdKeep 1 (.exit 0) (mkLoopN sdG)] 20 [.sl 0 0 o 1 0 n false, .roi .u8 l] [.ints .u8 w] [] =
    some (.bool true, [some (.ints .u8 w)], [LoopGood g1 44 (.loop sdBody) sdKeep 1 (.exit 0) (mkLoopN sdG), o + n ≤ w.length, n ≤ 140737488355328, l.length ≤ 140737488355328, n = l.length + 70, subI w o n = roomL l]) :=
  run_parts (by kernel_rfl) (by kernel_rfl) (by kernel_rfl)
def F20 : SumF := fun args B => match args, B with
  | [x, .roi K2 l], [.ints K w] => match sameK K .u8, sameK K2 .u8, vwI 0 w x with
    | true, true, some (o, n) => some { val := .sbool true, C := [o + n ≤ w.length, n ≤ 140737488355328, l.length ≤ 140737488355328, n = l.length + 70, subI w o n = roomL l] }
    | _, _, _ => none
  | _, _ => none
theorem acc20 : Acc g1 20 F20 := by
  intro args B out h hC
  unfold F20 at h
  split at h
  · rename_i x K2 l K w
    split at h
    · rename_i o n hK hK2 hx
      obtain rfl := kidx_inj hK
      obtain rfl := kidx_inj hK2
      simp only [Option.some.injEq] at h; subst h
      have hL := sd_loop
      refine FnOk.argsH (args' := [.sl 0 0 o 1 0 n false, .roi .u8 l]) (FnOk.toSb (b := true) (FnOk.run (out := { val := .bool true }) (new := []) g1_ok (sd_run o n l w) (allC_cons.2 ⟨hL, hC⟩) (by simp [upto]) rfl (by simp) (by simp) (fun j hj => by
        match j, hj with
        | 0, _ => rfl)) rfl) (fun w0 O ρ Φ w vs x d => ?_)
      simp only [DenT] at d ⊢
      obtain ⟨v1, r1, rfl, d1, v2, r2, rfl, d2, rfl⟩ := d
      exact ⟨_, _, rfl, vwI_den hx x rfl d1, _, _, rfl, d2, rfl⟩
    · simp at h
  · simp at h


/-! ### the document's events -/
theorem rif_1 : runF g1 100 [.br true] 40 [.sbool true] [] [] = some (.agg [.lit .i64 1, .lit .i64 1], [], [true = true]) := by kernel_rfl
theorem rif_0 : runF g1 100 [.br false] 40 [.sbool false] [] [] = some (.agg [.lit .i64 1, .lit .i64 0], [], [false = false]) := by kernel_rfl
def F40 : SumF := fun args B => match args, B with
  | [.sbool b], [] => some { val := .agg [.lit .i64 1, .int .i64 (if b = true then 1 else 0)] }
  | _, _ => none
theorem den_lits {w0 : World} {O : Go.Vx.Own} {ρ : Rho} {n : Int} {v : Value} (h : DenV w0 O ρ (.agg [.lit .i64 1, .lit .i64 n]) v) : DenV w0 O ρ (.agg [.lit .i64 1, .int .i64 n]) v := by
  rcases h with h | ⟨h1, h⟩
  · simp at h
  · refine .inr ⟨h1, ?_⟩
    simp only [DenC, DenL] at h ⊢
    exact h
theorem acc40 : Acc g1 40 F40 := by
  intro args B out h hC
  unfold F40 at h
  split at h
  · rename_i b
    simp only [Option.some.injEq] at h; subst h
    cases b with
    | true => exact FnOk.val (C := []) (rd := []) (FnOk.pure g1_ok rif_1 (by simp [AllC])) (fun _ _ _ _ h => den_lits h)
    | false => exact FnOk.val (C := []) (rd := []) (FnOk.pure g1_ok rif_0 (by simp [AllC])) (fun _ _ _ _ h => den_lits h)
  · simp at h
theorem rat_run (n : Int) : runF g1 100 [] 41 [.int .i64 n] [] [] = some (.agg [.lit .i64 2, .int .i64 n], [], []) := by kernel_rfl
def F41 : SumF := fun args B => match args, B with
  | [.int .i64 n], [] => some { val := .agg [.lit .i64 2, .int .i64 n] }
  | _, _ => none
theorem acc41 : Acc g1 41 F41 := by
  intro args B out h hC
  unfold F41 at h
  split at h
  · simp only [Option.some.injEq] at h; subst h
    exact FnOk.pure g1_ok (rat_run _) (by simp [AllC])
  · simp at h
theorem rop_run (n : Int) : runF g1 100 [] 42 [.int .i64 n] [] [] = some (.agg [.lit .i64 3, .int .i64 n], [], []) := by kernel_rfl
def F42 : SumF := fun args B => match args, B with
  | [.int .i64 n], [] => some { val := .agg [.lit .i64 3, .int .i64 n] }
  | _, _ => none
theorem acc42 : Acc g1 42 F42 := by
  intro args B out h hC
  unfold F42 at h
  split at h
  · simp only [Option.some.injEq] at h; subst h
    exact FnOk.pure g1_ok (rop_run _) (by simp [AllC])
  · simp at h

/-! ### two lists of events that are one -/
abbrev leKeep : List Nat := [0, 1, 5]
noncomputable abbrev leBody : Code := bodyAt Tryd.prog 21 4
abbrev leS (i : Nat) : List (Nat × SV) := leKeep.zip [.own 0, .own 1, .int .i64 (i : Int)]
noncomputable abbrev leB (l : List (List Int)) : List Body := [.rows [.i64, .i64] l, .rows [.i64, .i64] l]
theorem le_go (i : Nat) (l : List (List Int)) : runC g1 200 41 [.br true, .br false, .br false] leBody (leS i) (leB l) leKeep [0, 1] =
    some (Ex.normal, [SV.own (0 : Nat), SV.own (1 : Nat), SV.int IntKind.i64 ((↑i : Int) + (1 : Int))], [some (Body.rows [IntKind.i64, IntKind.i64] l), some (Body.rows [IntKind.i64, IntKind.i64] l)], [Fits IntKind.i64 (↑l.length : Int), decide ((↑i : Int) < (↑l.length : Int)) = true, i < l.length, (0 : Int) ≤ (↑i : Int) ∧ (↑i : Int) < (↑(List.length l) : Int), i < l.length, (0 : Int) ≤ (↑i : Int) ∧ (↑i : Int) < (↑(List.length l) : Int), (!decide ((l.getD (↑i : Int).toNat []).getD ((0 : Nat) + (0 : Nat) + (0 : Nat)) (0 : Int) = (l.getD (↑i : Int).toNat []).getD ((0 : Nat) + (0 : Nat) + (0 : Nat)) (0 : Int))) = false, i < l.length, (0 : Int) ≤ (↑i : Int) ∧ (↑i : Int) < (↑(List.length l) : Int), i < l.length, (0 : Int) ≤ (↑i : Int) ∧ (↑i : Int) < (↑(List.length l) : Int), (!decide ((l.getD (↑i : Int).toNat []).getD ((0 : Nat) + (1 : Nat) + (0 : Nat)) (0 : Int) = (l.getD (↑i : Int).toNat []).getD ((0 : Nat) + (1 : Nat) + (0 : Nat)) (0 : Int))) = false, Fits IntKind.i64 ((↑i : Int) + (1 : Int))]) := by kernel_rfl
theorem le_end (i : Nat) (l : List (List Int)) : runC g1 200 41 [.br false] leBody (leS i) (leB l) leKeep [0, 1] =
    some (Ex.exit (0 : Nat), [SV.own (0 : Nat), SV.own (1 : Nat), SV.int IntKind.i64 (↑i : Int)], [some (Body.rows [IntKind.i64, IntKind.i64] l), some (Body.rows [IntKind.i64, IntKind.i64] l)], [Fits IntKind.i64 (↑l.length : Int), decide ((↑i : Int) < (↑l.length : Int)) = false]) := by kernel_rfl
def leG : LoopF := fun vals B => match vals, B with
  | [.own 0, .own 1, .int .i64 0], [.rows K la, .rows K2 lb] => match sameKs K [.i64, .i64], sameKs K2 [.i64, .i64] with
    | true, true => some ([], [.rows [.i64, .i64] la, .rows [.i64, .i64] lb], [la = lb, la.length ≤ 140737488355328])
    | _, _ => none
  | _, _ => none
theorem le_loop : LoopGood g1 41 (.loop leBody) leKeep 2 (.exit 0) (mkLoopN leG) := by
  refine LoopGood.mkN (by decide) fun vals B S' B' C hG hC hlen w0 O hgl => ?_
  clear hlen
  unfold leG at hG
  split at hG
  · rename_i K la K2 lb
    split at hG
    · rename_i hK hK2
      obtain rfl := sameKs_eq hK
      obtain rfl := sameKs_eq hK2
      simp only [Option.some.injEq, Prod.mk.injEq] at hG
      obtain ⟨rfl, rfl, rfl⟩ := hG
      simp only [allC_cons, allC_nil, and_true] at hC
      obtain ⟨rfl, h3⟩ := hC
      have j2 : ∀ j : Nat, j < 2 → ([0, 1] : List Nat)[j]? = some j := fun j hj => by
        match j, hj with
        | 0, _ => rfl
        | 1, _ => rfl
      have F1 : Fits .i64 (la.length : Int) := Go.Vx.fits_small h3
      refine SimC.iter (g := g1) (S := fun i => leS i) (B := fun _ => leB la) (N := la.length) (fun i hi => ?_) ?_ (by simp) 0 (by omega)
      · have F4 : Fits .i64 ((i : Int) + 1) := fits_of (by omega) (by omega)
        exact SimC.run (B' := leB la) g1_ok (by decide) (le_go i la) (by (simp only [allC_cons, allC_nil, and_true]; repeat' (with_reducible (first | refine And.intro ?_ ?_ | exact True.intro | assumption | omega | exact decide_eq_true (by first | assumption | omega) | exact decide_eq_false (by first | assumption | omega) | rfl | (simp; done))))) (by decide) j2 (by decide) (by simp) hgl
      · exact SimC.weaken (SimC.run (B' := leB la) g1_ok (by decide) (le_end la.length la) (by (simp only [allC_cons, allC_nil, and_true]; repeat' (with_reducible (first | refine And.intro ?_ ?_ | exact True.intro | assumption | omega | exact decide_eq_true (by first | assumption | omega) | exact decide_eq_false (by first | assumption | omega) | rfl | (simp; done))))) (by decide) j2 (by decide) (by simp) hgl) (fun t => .inr (by simp [mkT, tget, Tr.get_lf]))
    · simp at hG
  · simp at hG
theorem se_run (la lb : List (List Int)) : runF g1 200 [.br false, .loop 4 leKeep 2 (.exit 0) (mkLoopN leG)] 21 [.own 0, .own 1] [.rows [.i64, .i64] la, .rows [.i64, .i64] lb] [] =
    some (SV.bool true, [some (Body.rows [IntKind.i64, IntKind.i64] la), some (Body.rows [IntKind.i64, IntKind.i64] lb)], [Fits IntKind.i64 (↑lb.length : Int), Fits IntKind.i64 (↑la.length : Int), (!decide ((↑la.length : Int) = (↑lb.length : Int))) = false, LoopGood g1 41 (.loop leBody) leKeep 2 (.exit 0) (mkLoopN leG), la = lb, la.length ≤ (140737488355328 : Nat)]) := by kernel_rfl
def seF : SumF := fun args B => match args, B with
  | [.own 0, .own 1], [.rows K la, .rows K2 lb] => match sameKs K [.i64, .i64], sameKs K2 [.i64, .i64] with
    | true, true => some { val := .sbool true, C := [la = lb, la.length ≤ 140737488355328] }
    | _, _ => none
  | _, _ => none
theorem se_acc : Acc g1 21 seF := by
  intro args B out h hC
  unfold seF at h
  split at h
  · rename_i K la K2 lb
    split at h
    · rename_i hK hK2
      obtain rfl := sameKs_eq hK
      obtain rfl := sameKs_eq hK2
      simp only [Option.some.injEq] at h; subst h
      simp only [allC_cons, allC_nil, and_true] at hC
      obtain ⟨rfl, hl⟩ := hC
      have F1 : Fits .i64 (la.length : Int) := Go.Vx.fits_small hl
      have hL := le_loop
      refine FnOk.toSb (b := true) ?_ rfl
      refine FnOk.run (out := { val := .bool true }) (new := []) g1_ok (se_run _ _) (by (simp only [allC_cons, allC_nil, and_true]; repeat' (with_reducible (first | refine And.intro ?_ ?_ | exact True.intro | assumption | omega | exact decide_eq_true (by first | assumption | omega) | exact decide_eq_false (by first | assumption | omega) | rfl | (simp; done))))) (by simp [upto]) rfl (by simp) (by simp) fun j hj => ?_
      match j, hj with
      | 0, _ => rfl
      | 1, _ => rfl
      | j + 2, hj => exact absurd hj (by simp)
    · simp at h
  · simp at h
/-! ### all accounts of MacPlays -/

end Go.Proofs.Tryd
