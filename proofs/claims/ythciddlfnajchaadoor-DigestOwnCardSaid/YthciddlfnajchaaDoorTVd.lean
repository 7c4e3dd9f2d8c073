/- Accounts of this seat's functions: lemmas, no statement of their own. No conditions. -/
import Derived.Test.YthciddlfnajchaaDoorTSc
import Derived.Test.YthciddlfnajchaaDoorV5
namespace Go.Proofs.Tryd
open Go Go.Vx
/-! ### Of, without a Recorder -/
noncomputable abbrev rowL (d : Nat → List Int) : Nat → SV := fun i => .roi .u8 (d i)
def lOf (f : Nat → SV) (i : Nat) : List Int := match f i with | .roi _ l => l | _ => []
abbrev LB (d : Nat → List Int) (m : Nat) : Prop := ∀ i, i < m → (d i).length ≤ 140737488351232
noncomputable abbrev oC (f : Nat → SV) (m : Nat) : List Prop := [f = rowL (lOf f), Fits .i64 (m : Int), LB (lOf f) m]
noncomputable abbrev b32 (x : Nat → Int) : List SV := svF (List.replicate 32 .u8) x 0
abbrev ofKeep : List Nat := [0, 1, 4, 5, 7]
noncomputable abbrev ofBody : Code := bodyAt Tryd.prog 17 3
noncomputable abbrev ofO (d : Nat → List Int) (m : Nat) (i : Int) : List SV := [nilR, .ro 1 m (rowL d), .ptr 0 0, .ptr 1 0, .int .i64 i]
noncomputable abbrev ofS (d : Nat → List Int) (m i : Nat) : List (Nat × SV) := ofKeep.zip (ofO d m (i : Int))
noncomputable abbrev ofB (z a : Nat → Int) : List Body := [.cells (b32 z), dgV nilR a]
theorem of_go (d : Nat → List Int) (m i : Nat) (z a : Nat → Int) : runC g5 300 35 [.br true] ofBody (ofS d m i) (ofB z a) ofKeep [0, 1] =
    some (.normal, ofO d m ((i : Int) + 1), (ofB z (wrA (n75 a) (d i))).map some, [Fits .i64 (m : Int), decide ((i : Int) < (m : Int)) = true, 0 ≤ n75 a 74 ∧ n75 a 74 ≤ 64, (d i).length ≤ 140737488355328, (0 : Int) ≤ (i : Int) ∧ (i : Int) < (m : Int), Fits .i64 ((i : Int) + 1)]) :=
  r3_parts4 (by kernel_rfl) (by kernel_rfl) (by kernel_rfl) (by kernel_rfl)
theorem of_end (d : Nat → List Int) (m i : Nat) (z a : Nat → Int) : runC g5 300 35 [.br false] ofBody (ofS d m i) (ofB z a) ofKeep [0, 1] =
    some (.exit 0, ofO d m (i : Int), (ofB z a).map some, [Fits .i64 (m : Int), decide ((i : Int) < (m : Int)) = false]) :=
  r3_parts4 (by kernel_rfl) (by kernel_rfl) (by kernel_rfl) (by kernel_rfl)
noncomputable def ofG : LoopF := fun vals B => match vals, B with
  | [.raw (.pointer none), .ro 1 m f, .ptr 0 0, .ptr 1 0, .int .i64 0], [.cells zs, .cells ms] => match numsAs (List.replicate 32 .u8) zs, dgAs ms, headK (ms.take 1) with
    | some lz, some la, .nil => some ([(4, .ptr 0 0), (5, .ptr 1 0)], ofB (atL lz) (aZ (atL la) (lOf f) m), oC f m ++ [OkA (atL la)])
    | _, _, _ => none
  | _, _ => none
theorem of_loop : LoopGood g5 35 (.loop ofBody) ofKeep 2 (.exit 0) (mkLoopN ofG) := by
  refine LoopGood.mkN (by decide) fun vals B S' B' C hG hC hlen w0 O hgl => ?_
  clear hlen
  unfold ofG at hG
  split at hG
  · rename_i m f zs ms
    split at hG
    · rename_i lz la hz ha hr
      have hr := head_nil hr
      simp only [Option.some.injEq, Prod.mk.injEq] at hG
      obtain ⟨rfl, rfl, rfl⟩ := hG
      simp only [oC, allC_append, allC_cons, allC_nil, and_true] at hC
      obtain ⟨⟨hf, Fm, hl⟩, h0⟩ := hC
      generalize lOf f = d at *
      rw [hf]
      clear hf
      have hm : (m : Int) ≤ 9223372036854775807 := Fm.2
      refine SimC.preI (B1 := ofB (atL lz) (atL la)) ?_ ⟨cells_nums hz, cells_dg ha hr rfl, trivial⟩
      show SimC _ _ _ _ _ (ofS d m 0) (ofB (atL lz) (aZ (atL la) d 0)) _ _ _ _
      refine SimC.iter (g := g5) (e := .exit 0) (S := fun i => ofS d m i) (B := fun i => ofB (atL lz) (aZ (atL la) d i)) (N := m) (fun i hi => ?_) ?_ (by simp) 0 (by omega)
      · have hli := hl i hi
        refine SimC.run (B' := ofB (atL lz) (aZ (atL la) d (i + 1))) g5_ok (by decide) (of_go d m i _ _) ?_ (by decide) i2 (by decide) (by simp) hgl
        simp only [allC_cons, allC_nil, and_true]
        exact ⟨Fm, decide_eq_true (by omega), ((h0.aZ d i).n).1, by omega, ⟨by omega, by omega⟩, fits_of (by omega) (by omega)⟩
      · exact SimC.weaken (SimC.run (B' := ofB (atL lz) (aZ (atL la) d m)) g5_ok (by decide) (of_end d m m _ _) (by simp only [allC_cons, allC_nil, and_true]; exact ⟨Fm, decide_eq_false (by omega)⟩) (by decide) i2 (by decide) (by simp) hgl) (sub_mkT (by simp; exact ⟨rfl, rfl⟩))
    · simp at hG
  · simp at hG
noncomputable abbrev ofN (d : Nat → List Int) (m : Nat) : Nat → Int := n75 (aZ (n75 (nwA 32 [])) d m)
/-- a list of at most 32 bytes in the place of noughts -/
def cp32 (L : List Int) (n : Nat) (j : Nat) : Int := if 0 ≤ j ∧ j < 0 + ((((L.drop (0 + 0)).take n)).take (32 - 0)).length then ((((L.drop (0 + 0)).take n)).take (32 - 0)).getD (j - 0) 0 else 0
noncomputable abbrev of1A (x : List Int) : Nat → Int := n75 (wrA (n75 (nwA 32 [])) x)
abbrev ofE (a : Nat → Int) : List Prop := [Fits .i64 ((min ((((dgL a).drop (0 + 0)).take (a 0).toNat)).length (32 - 0) : Nat) : Int), 0 + ((((dgL a).drop (0 + 0)).take (a 0).toNat).take (32 - 0)).length ≤ 32, 0 + 0 + (a 0).toNat ≤ (dgL a).length, 0 ≤ a 74 ∧ a 74 ≤ 64, 0 ≤ a 0 ∧ a 0 ≤ 32]
theorem of_run (d : Nat → List Int) (m : Nat) : runF g5 900 [.loop 3 ofKeep 2 (.exit 0) (mkLoopN ofG)] 17 [nilR, .ro 1 m (rowL d)] [] [] =
    some (.agg (b32 (cp32 (dgL (ofN d m)) (ofN d m 0).toNat)), [], [(1 : Int) ≤ 32, (32 : Int) ≤ 32, LoopGood g5 35 (.loop ofBody) ofKeep 2 (.exit 0) (mkLoopN ofG), rowL d = rowL (lOf (rowL d)), Fits .i64 (m : Int), LB d m, OkA (n75 (nwA 32 []))] ++ ofE (ofN d m)) :=
  run_parts (by kernel_rfl) (by kernel_rfl) (by kernel_rfl)
theorem of1_run (x : List Int) : runF g5 900 [.br true, .fix 0, .br false] 17 [nilR, .sl 0 1 0 1 0 1 true] [.cells [.roi .u8 x]] [] =
    some (.agg (b32 (cp32 (dgL (of1A x)) (of1A x 0).toNat)), [some (.cells [.roi .u8 x])], [(1 : Int) ≤ 32, (32 : Int) ≤ 32, true = true, 0 ≤ n75 (nwA 32 []) 74 ∧ n75 (nwA 32 []) 74 ≤ 64, x.length ≤ 140737488355328, (0 : Int) = 0, false = false] ++ ofE (of1A x)) :=
  run_parts (by kernel_rfl) (by kernel_rfl) (by kernel_rfl)
theorem HS_Z {n : Int} {k : List Int} {d : Nat → List Int} {m : Nat} {a : Nat → Int} (h0 : HS n k [] a) (hk : k.length ≤ 32) (hb : (xZ d m).length ≤ 1000000000) : ∀ i, i ≤ m → HS n k (xZ d i) (aZ a d i)
  | 0, _ => h0
  | i + 1, h => by
    have ih := HS_Z h0 hk hb i (by omega)
    have mono : ∀ j, i + 1 ≤ j → (xZ d (i + 1)).length ≤ (xZ d j).length := fun j hj => by
      induction j with
      | zero => omega
      | succ j ihj =>
        by_cases c : i + 1 = j + 1
        · rw [c]; exact Nat.le_refl _
        · have := ihj (by omega)
          have e : (xZ d (j + 1)).length = (xZ d j).length + (d j).length := by simp [xZ]
          omega
    have hm := mono m h
    have e : (xZ d (i + 1)).length = (xZ d i).length + (d i).length := by simp [xZ]
    exact HS_write (HT_75 ih) hk (by omega)
/-- the digest of 32 bytes, without a key -/
noncomputable abbrev D32 (x : List Int) : List Int := dSum 32 [] (allL [] x)
theorem D32_len (x : List Int) : (D32 x).length = 32 := listF_length _ _ _
theorem cp32_at {L : List Int} (h : L.length = 32) (j : Nat) (hj : j < 32) : cp32 L 32 j = atL L j := by
  unfold cp32
  have e : (((L.drop (0 + 0)).take 32)).take (32 - 0) = L := by
    rw [List.drop_zero, List.take_of_length_le (by rw [List.length_take]; omega), List.take_of_length_le (by omega)]
  rw [e, if_pos ⟨Nat.zero_le _, by omega⟩]; rfl
theorem ofE_ok {a : Nat → Int} (h : OkA a) : AllC (ofE a) := by
  have hl := dgL_len h.2
  have h0 := h.2
  have hh : ((((dgL a).drop (0 + 0)).take (a 0).toNat)).length = (a 0).toNat := by rw [List.drop_zero, List.length_take]; omega
  simp only [ofE, allC_cons, allC_nil, and_true]
  refine ⟨?_, ?_, by omega, h.1, h.2⟩
  · rw [hh]; exact fits_of (by omega) (by omega)
  · rw [List.length_take, hh]; omega
theorem new32 : HS 32 [] [] (n75 (nwA 32 [])) := HT_75 (HT_new (by decide) (by decide) (Nat.zero_le _))
theorem ok32 : OkA (n75 (nwA 32 [])) := HT_ok new32 (by decide) (by decide)
theorem of_val {x : List Int} {a : Nat → Int} (h : HS 32 [] x a) (hb : x.length ≤ 1000000000) : b32 (cp32 (dgL (n75 a)) (n75 a 0).toNat) = b32 (atL (D32 x)) := svF_congr _ 0 fun j hj => by
  have M := HT_75 h
  rw [Nat.zero_add]
  have e := HS_dg M (Nat.zero_le _) (by decide) (by decide) (by omega)
  have es : (n75 a 0).toNat = 32 := by rw [M.size]; rfl
  rw [es, e]
  exact cp32_at (D32_len x) j (by simpa using hj)
noncomputable def F17 : SumF := fun args B => match args, B with
  | [.raw (.pointer none), .ro 1 m f], [] => some { val := .agg (b32 (atL (D32 (xZ (lOf f) m)))), C := oC f m ++ [(xZ (lOf f) m).length ≤ 1000000000] }
  | _, _ => none
theorem acc17 : Acc g5 17 F17 := by
  intro args B out h hC
  unfold F17 at h
  split at h
  · rename_i m f
    simp only [Option.some.injEq] at h; subst h
    simp only [oC, allC_append, allC_cons, allC_nil, and_true] at hC
    obtain ⟨⟨hf, Fm, hl⟩, hb⟩ := hC
    generalize lOf f = d at *
    have hL := of_loop
    refine FnOk.imp (args' := [nilR, .ro 1 m (rowL d)]) ?_ ⟨DenImp.refl _, by rw [hf]; exact DenImp.refl _, trivial⟩
    have M := HS_Z (m := m) new32 (Nat.zero_le _) hb m (Nat.le_refl _)
    have o := HT_ok (HT_75 M) (by decide) (by decide)
    have hr := of_run d m
    rw [of_val M hb] at hr
    refine FnOk.val (FnOk.pure g5_ok hr (allC_append.2 ⟨?_, ofE_ok o⟩)) (fun _ _ _ _ h => h)
    simp only [allC_cons, allC_nil, and_true]
    exact ⟨by decide, by decide, hL, rfl, Fm, hl, ok32⟩
  · simp at h
noncomputable def F17s : SumF := fun args B => match args, B with
  | [.raw (.pointer none), .sl 0 1 0 1 0 1 true], [.cells [.roi K x]] => match sameK K .u8 with
    | true => some { val := .agg (b32 (atL (D32 x))), upd := [(0, some (.cells [.roi .u8 x]))], C := [x.length ≤ 1000000000] }
    | false => none
  | _, _ => none
theorem acc17s : Acc g5 17 F17s := by
  intro args B out h hC
  unfold F17s at h
  split at h
  · rename_i K x
    split at h
    · rename_i hK
      obtain rfl := kidx_inj hK
      simp only [Option.some.injEq] at h; subst h
      simp only [allC_cons, allC_nil, and_true] at hC
      have M : HS 32 [] x (wrA (n75 (nwA 32 [])) x) := HS_write new32 (Nat.zero_le _) (by show 0 + x.length ≤ _; omega)
      have o := HT_ok (HT_75 M) (by decide) (by decide)
      have hr := of1_run x
      rw [of_val M hC] at hr
      refine FnOk.val (FnOk.run (out := { val := .agg (b32 (atL (D32 x))), upd := [(0, some (.cells [.roi .u8 x]))] }) (new := []) g5_ok hr (allC_append.2 ⟨?_, ofE_ok o⟩) (by simp [upto]) rfl (by simp) (by simp) (fun j hj => by
        match j, hj with
        | 0, _ => rfl)) (fun _ _ _ _ h => h)
      simp only [allC_cons, allC_nil, and_true, true_and]
      exact ⟨by decide, by decide, ok32.1, by omega⟩
    · simp at h
  · simp at h
/-- two rows of bytes that are one, the other one an array's beginning -/
def F16c : SumF := fun args B => match args, B with
  | [x, .sl 1 _ ob 1 0 nb _], [.ints K la, .cells cs] => match sameK K .u8, numsAs (List.replicate cs.length .u8) cs, vwI 0 la x with
    | true, some lb, some (oa, na) => some { val := .sbool true, upd := [(1, some (.cells (svF (List.replicate lb.length .u8) (atL lb) 0)))], C := [oa + na ≤ la.length, ob + nb ≤ lb.length, na ≤ 140737488355328, subI la oa na = subI lb ob nb] }
    | _, _, _ => none
  | _, _ => none
theorem acc16c : Acc g1 16 F16c := by
  intro args B out h hC
  unfold F16c at h
  split at h
  · rename_i x m ob nb kn K la cs
    split at h
    · rename_i lb oa na hK hl hx
      obtain rfl := kidx_inj hK
      simp only [Option.some.injEq] at h; subst h
      refine FnOk.asInts (i := 1) (out := { val := .sbool true, C := [oa + na ≤ la.length, ob + nb ≤ lb.length, na ≤ 140737488355328, subI la oa na = subI lb ob nb] }) rfl hl (acc16 _ _ _ ?_ hC) rfl rfl rfl (fun j => ?_)
      · show F16 [x, .sl 1 m ob 1 0 nb kn] [.ints .u8 la, .ints .u8 lb] = _
        simp only [F16, hx, show vwI 1 lb (.sl 1 m ob 1 0 nb kn) = some (ob, nb) from rfl, show sameK IntKind.u8 IntKind.u8 = true from rfl]
      · match j with
        | 0 => rfl
        | 1 => rfl
        | j + 2 => rfl
    · simp at h
  · simp at h
noncomputable abbrev gz (p : Addr) : Ctx := (gA p).add [(17, roW (oneOf F17 F17s)), (16, oneOf F16 F16c)]
theorem gz_ok (p : Addr) : CtxU (gz p) := (gT_ok p _).add mixed noGo (by
  intro x hx
  simp only [List.mem_cons, List.not_mem_nil, or_false] at hx
  rcases hx with rfl | rfl
  · exact Acc.of (g := g5.gl (eV p)) rfl rfl (Acc.gl (fun _ => rfl) (acc_roW (acc_one acc17 acc17s)))
  · exact Acc.of (g := g1.gl (eV p)) rfl rfl (Acc.gl (fun _ => rfl) (acc_one acc16 acc16c)))
end Go.Proofs.Tryd

namespace Go.Proofs.Tryd
open Go Go.Vx
/-! ### Sum of a size that is told: its answer has no room behind its end -/
noncomputable abbrev dgN (n : Int) (a : Nat → Int) : Body := .cells (nilR :: .lit .i64 n :: svF (dgK.drop 1) a 1)
theorem pb_n (n : Int) (a s b : Nat → Int) (c l : Int) : runF g2 2000 [] 37 [.ptr 0 0, .ptr 1 0, .ptr 2 0, .int .u64 c, .int .u32 l] [dgN n a, .cells (w8 s), .cells (b64 b)] [] =
    some (.tuple [], [some (dgN n a), some (.cells (w8 (prS s b c l))), some (.cells (b64 b))], []) := run_parts (by kernel_rfl) (by kernel_rfl) (by kernel_rfl)
noncomputable def F37n : SumF := fun args B => match args, B with
  | [.ptr 0 0, .ptr 1 0, .ptr 2 0, .int .u64 c, .int .u32 l], [.cells (.raw (.pointer none) :: .lit .i64 n :: t), .cells ss, .cells bs] => match numsAs (dgK.drop 1) t, numsAs (List.replicate 8 .u32) ss, numsAs (List.replicate 64 .u8) bs with
    | some lt, some ls, some lb => some { val := .tuple [], upd := [(0, some (dgN n (atL (n :: lt)))), (1, some (.cells (w8 (prS (atL ls) (atL lb) c l)))), (2, some (.cells (b64 (atL lb))))] }
    | _, _, _ => none
  | _, _ => none
theorem cells_dgN {n : Int} {t : List SV} {lt : List Int} (h : numsAs (dgK.drop 1) t = some lt) : BImp (.cells (nilR :: .lit .i64 n :: t)) (dgN n (atL (n :: lt))) ∧ ∀ l, Body.cells (nilR :: .lit .i64 n :: t) = .cells l → flatL l := by
  have a1 := impL_nums (i := 1) h (a := atL (n :: lt)) fun j _ => by rw [Nat.add_comm]; rfl
  refine ⟨.cells ⟨DenImp.refl _, DenImp.refl _, a1.1⟩, fun l hl => ?_⟩
  injection hl with hl
  subst hl
  intro d hd
  simp only [List.mem_cons] at hd
  rcases hd with rfl | rfl | hd
  · rfl
  · rfl
  · exact a1.2 d hd
theorem acc37n : Acc g2 37 F37n := by
  intro args B out h hC
  unfold F37n at h
  split at h
  · rename_i c l n t ss bs
    split at h
    · rename_i lt ls lb ha hs hb
      simp only [Option.some.injEq] at h; subst h
      refine FnOk.preB (B' := [dgN n (atL (n :: lt)), .cells (w8 (atL ls)), .cells (b64 (atL lb))]) ?_ ⟨cells_dgN ha, cells_nums hs, cells_nums hb, trivial⟩ (fun j => by
        match j with
        | 0 => rfl
        | 1 => rfl
        | 2 => rfl
        | j + 3 => rfl)
      exact FnOk.run (new := []) g2_ok (pb_n n (atL (n :: lt)) (atL ls) (atL lb) c l) (by simp [AllC]) (by simp [upto]) rfl (by simp) (by simp) (fun j hj => by
        match j, hj with
        | 0, _ => rfl
        | 1, _ => rfl
        | 2, _ => rfl)
    · simp at h
  · simp at h
noncomputable abbrev gk : Ctx := g4.add [(37, F37n)]
theorem gk_ok : CtxU gk := g4_ok.add mixed noGo (by
  intro x hx
  simp only [List.mem_cons, List.not_mem_nil, or_false] at hx
  rcases hx with rfl
  exact Acc.of (g := g2) rfl rfl acc37n)
abbrev smK (a : Nat → Int) (i : Nat) : List Prop := [(a 74).toNat + (List.replicate (64 - (a 74).toNat) (0 : Int)).length ≤ 64, 0 ≤ a 74 ∧ a 74 ≤ ((64 : Nat) : Int) ∧ ((64 : Nat) : Int) ≤ ((64 : Nat) : Int), (0 : Int) ≤ ((i + 1 : Nat) : Int) ∧ ((i + 1 : Nat) : Int) = ((i + 1 : Nat) : Int) ∧ (((i + 1 : Nat) : Int)).toNat * 1 ≤ 2 ^ 47,
  0 + (0 + 0) + ((listF 32 (dgB (smS a)) 0).take (i + 1)).length ≤ (List.replicate (i + 1) (0 : Int)).length]
theorem sumk (a : Nat → Int) : ∀ i : Nat, i < 32 → runF gk 2000 [] 15 [.ptr 0 0] [dgN ((i + 1 : Nat) : Int) a] [4] =
    some (.sl 1 (i + 1) 0 1 0 (i + 1) true, [some (dgN ((i + 1 : Nat) : Int) (atL (((i + 1 : Nat) : Int) :: listF 74 a 1))), some (.ints .u8 (splice (List.replicate (i + 1) 0) 0 ((listF 32 (dgB (smS a)) 0).take (i + 1))))], smK a i)
  | 0, _ => run_parts (by kernel_rfl) (by kernel_rfl) (by kernel_rfl)
  | 1, _ => run_parts (by kernel_rfl) (by kernel_rfl) (by kernel_rfl)
  | 2, _ => run_parts (by kernel_rfl) (by kernel_rfl) (by kernel_rfl)
  | 3, _ => run_parts (by kernel_rfl) (by kernel_rfl) (by kernel_rfl)
  | 4, _ => run_parts (by kernel_rfl) (by kernel_rfl) (by kernel_rfl)
  | 5, _ => run_parts (by kernel_rfl) (by kernel_rfl) (by kernel_rfl)
  | 6, _ => run_parts (by kernel_rfl) (by kernel_rfl) (by kernel_rfl)
  | 7, _ => run_parts (by kernel_rfl) (by kernel_rfl) (by kernel_rfl)
  | 8, _ => run_parts (by kernel_rfl) (by kernel_rfl) (by kernel_rfl)
  | 9, _ => run_parts (by kernel_rfl) (by kernel_rfl) (by kernel_rfl)
  | 10, _ => run_parts (by kernel_rfl) (by kernel_rfl) (by kernel_rfl)
  | 11, _ => run_parts (by kernel_rfl) (by kernel_rfl) (by kernel_rfl)
  | 12, _ => run_parts (by kernel_rfl) (by kernel_rfl) (by kernel_rfl)
  | 13, _ => run_parts (by kernel_rfl) (by kernel_rfl) (by kernel_rfl)
  | 14, _ => run_parts (by kernel_rfl) (by kernel_rfl) (by kernel_rfl)
  | 15, _ => run_parts (by kernel_rfl) (by kernel_rfl) (by kernel_rfl)
  | 16, _ => run_parts (by kernel_rfl) (by kernel_rfl) (by kernel_rfl)
  | 17, _ => run_parts (by kernel_rfl) (by kernel_rfl) (by kernel_rfl)
  | 18, _ => run_parts (by kernel_rfl) (by kernel_rfl) (by kernel_rfl)
  | 19, _ => run_parts (by kernel_rfl) (by kernel_rfl) (by kernel_rfl)
  | 20, _ => run_parts (by kernel_rfl) (by kernel_rfl) (by kernel_rfl)
  | 21, _ => run_parts (by kernel_rfl) (by kernel_rfl) (by kernel_rfl)
  | 22, _ => run_parts (by kernel_rfl) (by kernel_rfl) (by kernel_rfl)
  | 23, _ => run_parts (by kernel_rfl) (by kernel_rfl) (by kernel_rfl)
  | 24, _ => run_parts (by kernel_rfl) (by kernel_rfl) (by kernel_rfl)
  | 25, _ => run_parts (by kernel_rfl) (by kernel_rfl) (by kernel_rfl)
  | 26, _ => run_parts (by kernel_rfl) (by kernel_rfl) (by kernel_rfl)
  | 27, _ => run_parts (by kernel_rfl) (by kernel_rfl) (by kernel_rfl)
  | 28, _ => run_parts (by kernel_rfl) (by kernel_rfl) (by kernel_rfl)
  | 29, _ => run_parts (by kernel_rfl) (by kernel_rfl) (by kernel_rfl)
  | 30, _ => run_parts (by kernel_rfl) (by kernel_rfl) (by kernel_rfl)
  | 31, _ => run_parts (by kernel_rfl) (by kernel_rfl) (by kernel_rfl)
  | i + 32, h => absurd h (by omega)
/-- what stands behind a call says less -/
theorem FnOk.relax {g : Ctx} {f : FuncId} {args : List SV} {B : List Body} {out out' : OpOut} (hv : out'.val = out.val) (hn : out'.new.length = out.new.length)
    (hb : ∀ id bd, afterH B out' id = some bd → ∃ b0, afterH B out id = some b0 ∧ (b0 = bd ∨ (BImp b0 bd ∧ ∀ l, b0 = .cells l → flatL l))) (h : FnOk g f args B out) : FnOk g f args B out' := by
  intro w0 O hG ρ Φ vs w d x hr
  refine (h w0 O hG ρ Φ vs w d x hr).mono fun u w' ⟨ρ', Φ', q1, q2, q3, q4⟩ => ⟨ρ', Φ', ?_, q2, ?_, relH_impF hb q4⟩
  · rw [hv]; exact q1
  · rw [hn]; exact q3
theorem impL_refl : ∀ l : List SV, ImpL l l
  | [] => trivial
  | c :: r => ⟨DenImp.refl c, impL_refl r⟩
theorem flat_sv : ∀ (ks : List IntKind) (a : Nat → Int) (i : Nat), flatL (svF ks a i)
  | [], _, _ => fun d hd => by simp [svF] at hd
  | k :: ks, a, i => fun d hd => by
    simp only [svF, List.mem_cons] at hd
    rcases hd with rfl | hd
    · rfl
    · exact flat_sv ks a (i + 1) d hd
theorem flat_dgN (n : Int) (a : Nat → Int) : ∀ l, dgN n a = .cells l → flatL l := fun l hl => by
  injection hl with hl
  subst hl
  intro d hd
  simp only [List.mem_cons] at hd
  rcases hd with rfl | rfl | hd
  · rfl
  · rfl
  · exact flat_sv _ _ _ d hd
theorem flat_dgV (a : Nat → Int) : ∀ l, dgV nilR a = .cells l → flatL l := fun l hl => by
  injection hl with hl
  subst hl
  intro d hd
  simp only [List.mem_cons] at hd
  rcases hd with rfl | hd
  · rfl
  · exact flat_sv _ _ _ d hd
theorem dgV_N (a : Nat → Int) : BImp (dgV nilR a) (dgN (a 0) a) :=
  .cells ⟨DenImp.refl _, DenImp.lit, impL_refl _⟩
theorem dgN_V {n : Int} {a b : Nat → Int} (h0 : b 0 = n) (h : ∀ j, 1 ≤ j → j < 75 → a j = b j) : BImp (dgN n a) (dgV nilR b) := by
  subst h0
  refine .cells ⟨DenImp.refl _, norm_imp (.lit .i64 (b 0)), ?_⟩
  have e : svF (dgK.drop 1) a 1 = svF (dgK.drop 1) b 1 := svF_congr _ 1 fun j hj => h (1 + j) (by omega) (by
    have : (dgK.drop 1).length = 74 := by decide
    omega)
  show ImpL (svF (dgK.drop 1) a 1) (svF (dgK.drop 1) b 1)
  rw [e]; exact impL_refl _
theorem smK_ok {a : Nat → Int} (h : 0 ≤ a 74 ∧ a 74 ≤ 64) {i : Nat} (hi : i < 32) : AllC (smK a i) := by
  simp only [smK, allC_cons, allC_nil, and_true]
  refine ⟨by rw [List.length_replicate]; omega, ⟨by omega, by omega, by omega⟩, ⟨by omega, trivial, by omega⟩, ?_⟩
  rw [List.length_take, listF_length, List.length_replicate]; omega
noncomputable def F15k : SumF := fun args B => match args, B with
  | [.ptr 0 0], [.cells ms] => match dgAs ms, headK (ms.take 1) with
    | some la, .nil => some { val := .sl 1 ((atL la 0).toNat - 1 + 1) 0 1 0 ((atL la 0).toNat - 1 + 1) true, upd := [(0, some (dgV nilR (atL la)))], new := [.ints .u8 (dgL (atL la))], C := [0 ≤ atL la 74 ∧ atL la 74 ≤ 64, 1 ≤ atL la 0 ∧ atL la 0 ≤ 32] }
    | _, _ => none
  | _, _ => none
theorem acc15k : Acc g4 15 F15k := by
  intro args B out h hC
  unfold F15k at h
  split at h
  · rename_i ms
    split at h
    · rename_i la ha hr
      have hr := head_nil hr
      simp only [Option.some.injEq] at h; subst h
      simp only [allC_cons, allC_nil, and_true] at hC
      obtain ⟨h1, h2⟩ := hC
      refine FnOk.preB (B' := [dgV nilR (atL la)]) ?_ ⟨cells_dg ha hr rfl, trivial⟩ (fun j => by
        match j with
        | 0 => rfl
        | 1 => rfl
        | j + 2 => rfl)
      refine FnOk.preB (B' := [dgN (atL la 0) (atL la)]) ?_ ⟨⟨dgV_N _, flat_dgV _⟩, trivial⟩ (fun j => by
        match j with
        | 0 => rfl
        | 1 => rfl
        | j + 2 => rfl)
      obtain ⟨i, hi⟩ : ∃ i, (atL la 0).toNat - 1 = i := ⟨_, rfl⟩
      have e0 : atL la 0 = ((i + 1 : Nat) : Int) := by omega
      have et : (atL la 0).toNat = i + 1 := by omega
      have hrun := sumk (atL la) i (by omega)
      have hc := smK_ok h1 (i := i) (by omega)
      have es : splice (List.replicate (i + 1) 0) 0 ((listF 32 (dgB (smS (atL la))) 0).take (i + 1)) = dgL (atL la) := by
        unfold dgL
        rw [et]
        exact splice_all (by rw [List.length_take, listF_length]; omega)
      rw [es, ← e0] at hrun
      rw [hi]
      refine FnOk.of (g := gk) rfl rfl (FnOk.relax (out := { val := .sl 1 (i + 1) 0 1 0 (i + 1) true, upd := [(0, some (dgN (atL la 0) (atL (atL la 0 :: listF 74 (atL la) 1))))], new := [.ints .u8 (dgL (atL la))] }) rfl rfl (fun id bd hbd => ?_)
        (FnOk.run (new := [4]) gk_ok hrun hc (by simp [upto]) rfl (by simp) (by simp) (fun j hj => by
        match j, hj with
        | 0, _ => rfl
        | 1, _ => rfl)))
      match id, hbd with
      | 0, hbd =>
        simp only [afterH, newH, newAll, updAll, upH] at hbd ⊢
        simp at hbd ⊢
        subst hbd
        refine .inr ⟨dgN_V rfl fun j j1 j2 => ?_, flat_dgN _ _ _ rfl⟩
        obtain ⟨j, rfl⟩ : ∃ k, j = k + 1 := ⟨j - 1, by omega⟩
        show (listF 74 (atL la) 1).getD j 0 = atL la (j + 1)
        rw [List.getD_eq_getElem?_getD, listF_get 74 (atL la) 1 j, if_pos (by omega), Nat.add_comm]; rfl
      | 1, hbd => exact ⟨_, hbd, .inl rfl⟩
      | id + 2, hbd => exact ⟨_, hbd, .inl rfl⟩
    · simp at h
  · simp at h
/-! ### Write of five bytes into a Hash that holds nothing -/
theorem w5 (v0 v1 v2 v3 v4 : Int) (a : Nat → Int) : runF g4 900 [.br true, .br false, .br false] 14 [.ptr 0 0, .sl 1 5 0 1 0 5 true] [dgV nilR a, .cells [.int .u8 v0, .int .u8 v1, .int .u8 v2, .int .u8 v3, .int .u8 v4]] [] =
    some (.tuple [], [some (dgV nilR (ovA a [v0, v1, v2, v3, v4])), some (.cells [.int .u8 v0, .int .u8 v1, .int .u8 v2, .int .u8 v3, .int .u8 v4])], [true = true, decide (a 74 = 64) = false, Fits .i64 (kN a [v0, v1, v2, v3, v4]), (a 74).toNat + ([v0, v1, v2, v3, v4].take (64 - (a 74).toNat)).length ≤ 64, 0 ≤ a 74 ∧ a 74 ≤ ((64 : Nat) : Int) ∧ ((64 : Nat) : Int) ≤ ((64 : Nat) : Int), 0 ≤ kN a [v0, v1, v2, v3, v4] ∧ kN a [v0, v1, v2, v3, v4] ≤ ((5 : Nat) : Int) ∧ ((5 : Nat) : Int) ≤ ((5 : Nat) : Int), Fits .i64 (a 74 + kN a [v0, v1, v2, v3, v4]), Fits .i64 ((5 - (kN a [v0, v1, v2, v3, v4]).toNat : Nat) : Int), decide ((0 : Int) < ((5 - (kN a [v0, v1, v2, v3, v4]).toNat : Nat) : Int)) = false]) := run_parts (by kernel_rfl) (by kernel_rfl) (by kernel_rfl)
noncomputable def F14w : SumF := fun args B => match args, B with
  | [.ptr 0 0, .sl 1 5 0 1 0 5 true], [.cells ms, .cells bs] => match dgAs ms, headK (ms.take 1), numsAs [.u8, .u8, .u8, .u8, .u8] bs with
    | some la, .nil, some [v0, v1, v2, v3, v4] => some { val := .tuple [], upd := [(0, some (dgV nilR (ovA (atL la) [v0, v1, v2, v3, v4]))), (1, some (.cells [.int .u8 v0, .int .u8 v1, .int .u8 v2, .int .u8 v3, .int .u8 v4]))], C := [atL la 74 = 0] }
    | _, _, _ => none
  | _, _ => none
theorem acc14w : Acc g4 14 F14w := by
  intro args B out h hC
  unfold F14w at h
  split at h
  · rename_i ms bs
    split at h
    · rename_i la v0 v1 v2 v3 v4 ha hr hb
      have hr := head_nil hr
      simp only [Option.some.injEq] at h; subst h
      simp only [allC_cons, allC_nil, and_true] at hC
      refine FnOk.preB (B' := [dgV nilR (atL la), .cells [.int .u8 v0, .int .u8 v1, .int .u8 v2, .int .u8 v3, .int .u8 v4]]) ?_ ⟨cells_dg ha hr rfl, cells_nums hb, trivial⟩ (fun j => by
        match j with
        | 0 => rfl
        | 1 => rfl
        | j + 2 => rfl)
      generalize atL la = a at *
      have hk : kN a [v0, v1, v2, v3, v4] = 5 := by simp only [kN, hC]; rfl
      refine FnOk.val (C := []) (rd := []) (FnOk.run (new := []) g4_ok (w5 v0 v1 v2 v3 v4 a) (by
          simp only [allC_cons, allC_nil, and_true, true_and]
          rw [hk, hC]
          exact ⟨by decide, fits_of (by decide) (by decide), by simp, ⟨by decide, by decide, by decide⟩, ⟨by decide, by decide, by decide⟩, fits_of (by decide) (by decide), fits_of (by decide) (by decide), by decide⟩) (by simp [upto]) rfl (by simp) (by simp) (fun j hj => by
          match j, hj with
          | 0, _ => rfl
          | 1, _ => rfl)) (fun _ _ _ _ h => h)
    · simp at h
  · simp at h
noncomputable abbrev gO (p : Addr) : Ctx := (gA p).add [(14, oneOf F14 F14w), (15, F15k)]
theorem gO_ok (p : Addr) : CtxU (gO p) := (gT_ok p _).add mixed noGo (by
  intro x hx
  simp only [List.mem_cons, List.not_mem_nil, or_false] at hx
  rcases hx with rfl | rfl
  · exact Acc.of (g := g4.gl (eV p)) rfl rfl (Acc.gl (fun _ => rfl) (acc_one acc14 acc14w))
  · exact Acc.of (g := g4.gl (eV p)) rfl rfl (Acc.gl (fun _ => rfl) acc15k))
end Go.Proofs.Tryd

namespace Go.Proofs.Tryd
open Go Go.Vx
/-! ### DigestOwn: the runs -/
noncomputable abbrev odC : Code := match Tryd.f6.body with | some c => c | none => .skip
noncomputable abbrev odH (n : Int) (k d : List Int) : Nat → Int := wrA (n75 (nwA n k)) d
noncomputable abbrev odG : Nat → Int := ovA (n75 (nwA 32 [])) [111, 116, 104, 101, 114]
theorem od_p1 (p : Addr) (n : Int) (k d : List Int) : runC (gO p) 900 230 [.br false, .br false] (takeSeq 8 odC) [(0, .int .i64 n), (1, .roi .u8 k), (2, .roi .u8 d)] [] [0, 7, 9] [0, 1] =
    some (.normal, [.int .i64 n, .ptr 0 0, .ptr 1 0], [dgV nilR (odH n k d), dgV nilR odG].map some, [Fits .i64 (k.length : Int), decide ((131072 : Int) < (d.length : Int)) = false, Fits .i64 (d.length : Int), decide ((131072 : Int) < (k.length : Int)) = false, 1 ≤ n, n ≤ 32, k.length ≤ 32, (1 : Int) ≤ 32, (32 : Int) ≤ 32, ([] : List Int).length ≤ 32, 0 ≤ n75 (nwA n k) 74 ∧ n75 (nwA n k) 74 ≤ 64, d.length ≤ 140737488355328, n75 (nwA 32 []) 74 = 0]) := r3_parts4 (by kernel_rfl) (by kernel_rfl) (by kernel_rfl) (by kernel_rfl)
noncomputable def nI : Nat → (Nat → Int) → (Nat → Int)
  | 0, a => a
  | i + 1, a => n75 (nI i a)
abbrev zI (a : Nat → Int) : Nat := (a 0).toNat - 1
abbrev rI (a : Nat → Int) (c : Nat) : SV := .sl c (zI a + 1) 0 1 0 (zI a + 1) true
abbrev sI (a : Nat → Int) : List Prop := [0 ≤ a 74 ∧ a 74 ≤ 64, 1 ≤ a 0 ∧ a 0 ≤ 32]
theorem od_p2 (p : Addr) (n : Int) (a b : Nat → Int) : runC (gO p) 900 230 [] (takeSeq 6 (dropSeq 8 odC)) ([0, 7, 9].zip [.int .i64 n, .ptr 0 0, .ptr 1 0]) [dgV nilR a, dgV nilR b] [0, 7, 9, 11, 14, 15, 16] [0, 1, 2, 12, 14, 3, 4, 5, 6, 7, 8, 9, 10] =
    some (.normal, [.int .i64 n, .ptr 0 0, .ptr 1 0, .ptr 2 0, .int .i64 ((zI (nI 1 a) + 1 : Nat) : Int), .own 3, .own 4],
      [dgV nilR (nI 4 a), dgV nilR (nI 4 b), .cells [rI (nI 1 a) 5, rI (nI 2 a) 6, rI (nI 3 a) 7, rI (nI 4 a) 8, rI (nI 1 b) 9, rI (nI 2 b) 10, rI (nI 3 b) 11, rI (nI 4 b) 12],
       .ints .u8 ([] ++ ((dgL (nI 1 a)).drop (0 + 0)).take (zI (nI 1 a) + 1)), .ints .u8 ([] ++ ((dgL (nI 1 b)).drop (0 + 0)).take (zI (nI 1 b) + 1)),
       .ints .u8 (dgL (nI 1 a)), .ints .u8 (dgL (nI 2 a)), .ints .u8 (dgL (nI 3 a)), .ints .u8 (dgL (nI 4 a)), .ints .u8 (dgL (nI 1 b)), .ints .u8 (dgL (nI 2 b)), .ints .u8 (dgL (nI 3 b)), .ints .u8 (dgL (nI 4 b))].map some,
      sI (nI 1 a) ++ (sI (nI 2 a) ++ (sI (nI 3 a) ++ (sI (nI 4 a) ++ (sI (nI 1 b) ++ (sI (nI 2 b) ++ (sI (nI 3 b) ++ (sI (nI 4 b) ++ [Fits .i64 ((zI (nI 1 a) + 1 : Nat) : Int), ([] ++ ((dgL (nI 1 a)).drop (0 + 0)).take (zI (nI 1 a) + 1)).length * 1 ≤ 2 ^ 47, 0 + 0 + (zI (nI 1 a) + 1) ≤ (dgL (nI 1 a)).length, ([] ++ ((dgL (nI 1 b)).drop (0 + 0)).take (zI (nI 1 b) + 1)).length * 1 ≤ 2 ^ 47, 0 + 0 + (zI (nI 1 b) + 1) ≤ (dgL (nI 1 b)).length])))))))) := r3_parts4 (by kernel_rfl) (by kernel_rfl) (by kernel_rfl) (by kernel_rfl)
end Go.Proofs.Tryd

namespace Go.Proofs.Tryd
open Go Go.Vx
/-! ### DigestOwn: the loops' runs -/
def updI (l : Nat → List Int) (i : Nat) (x : List Int) (j : Nat) : List Int := match Nat.beq j i with | true => x | false => l j
def selI {α : Type} (i j : Nat) (x y : α) : α := match Nat.blt j i with | true => x | false => y
abbrev oRV (z : Nat → Nat) (j : Nat) : SV := .sl (5 + j) (z j + 1) 0 1 0 (z j + 1) true
noncomputable abbrev oB (a b : Nat → Int) (w o : List Int) (z : Nat → Nat) (L : Nat → List Int) : List Body := [dgV nilR a, dgV nilR b, .cells [oRV z 0, oRV z 1, oRV z 2, oRV z 3, oRV z 4, oRV z 5, oRV z 6, oRV z 7], .ints .u8 w, .ints .u8 o,
  .ints .u8 (L 0), .ints .u8 (L 1), .ints .u8 (L 2), .ints .u8 (L 3), .ints .u8 (L 4), .ints .u8 (L 5), .ints .u8 (L 6), .ints .u8 (L 7)]
abbrev i13 : List Nat := [0, 1, 2, 3, 4, 5, 6, 7, 8, 9, 10, 11, 12]
/-! what was told is looked at -/
abbrev oK3 : List Nat := [0, 7, 9, 11, 14, 15, 16, 17]
abbrev oV3 (n s i : Int) : List SV := [.int .i64 n, .ptr 0 0, .ptr 1 0, .ptr 2 0, .int .i64 s, .own 3, .own 4, .lit .i64 i]
noncomputable abbrev o3C : Code := bodyAt Tryd.prog 6 24
abbrev oK4 : List Nat := [7, 9, 11, 15, 16, 18]
abbrev oV4 (i : Int) : List SV := [.ptr 0 0, .ptr 1 0, .ptr 2 0, .own 3, .own 4, .lit .i64 i]
abbrev oX4 (i k : Int) : List SV := [.ptr 0 0, .ptr 1 0, .ptr 2 0, .own 3, .own 4, .lit .i64 i, .int .i64 k]
noncomputable abbrev o4C : Code := bodyAt Tryd.prog 6 29
noncomputable abbrev w4C : Code := bodyAt Tryd.prog 6 32
theorem o3_go (p : Addr) (n s : Int) (a b : Nat → Int) (w o : List Int) (z : Nat → Nat) (L : Nat → List Int) : ∀ i : Nat, i < 4 → runC (gO p) 900 230 [.br false, .br false, .br false, .br false] o3C (oK3.zip (oV3 n s (i : Int))) (oB a b w o z L) oK3 i13 =
    some (.normal, oV3 n s ((i : Int) + 1), (oB a b w o z L).map some, [Fits .i64 (o.length : Int), (!true) = false, 0 + (z (4 + i) + 1) ≤ (L (4 + i)).length, 0 + o.length ≤ o.length, z (4 + i) + 1 ≤ 140737488355328, subI (L (4 + i)) 0 (z (4 + i) + 1) = subI o 0 o.length, (!true) = false, 0 + (z i + 1) ≤ (L i).length, 0 + w.length ≤ w.length, z i + 1 ≤ 140737488355328, subI (L i) 0 (z i + 1) = subI w 0 w.length, (!decide (s = n)) = false, (!decide ((o.length : Int) = 32)) = false])
  | 0, _ => r3_parts4 (by kernel_rfl) (by kernel_rfl) (by kernel_rfl) (by kernel_rfl)
  | 1, _ => r3_parts4 (by kernel_rfl) (by kernel_rfl) (by kernel_rfl) (by kernel_rfl)
  | 2, _ => r3_parts4 (by kernel_rfl) (by kernel_rfl) (by kernel_rfl) (by kernel_rfl)
  | 3, _ => r3_parts4 (by kernel_rfl) (by kernel_rfl) (by kernel_rfl) (by kernel_rfl)
  | i + 4, h => absurd h (by omega)
theorem o3_end (p : Addr) (n s : Int) (a b : Nat → Int) (w o : List Int) (z : Nat → Nat) (L : Nat → List Int) : runC (gO p) 900 230 [] o3C (oK3.zip (oV3 n s 4)) (oB a b w o z L) [7, 9, 11, 15, 16] i13 =
    some (.exit 4, [.ptr 0 0, .ptr 1 0, .ptr 2 0, .own 3, .own 4], (oB a b w o z L).map some, []) := r3_parts4 (by kernel_rfl) (by kernel_rfl) (by kernel_rfl) (by kernel_rfl)
/-! the answers are written over -/
theorem w4_go (p : Addr) (a b : Nat → Int) (w o : List Int) (z : Nat → Nat) (L : Nat → List Int) (k : Nat) : ∀ i : Nat, i < 8 → runC (gO p) 900 230 [.br true] w4C ((oK4 ++ [19]).zip (oX4 (i : Int) (k : Int))) (oB a b w o z L) (oK4 ++ [19]) i13 =
    some (.normal, oX4 (i : Int) ((k : Int) + 1), (oB a b w o z (updI L i ((L i).set (0 + k) (10 + (i : Int))))).map some, [Fits .i64 ((z i + 1 : Nat) : Int), decide ((k : Int) < ((z i + 1 : Nat) : Int)) = true, 0 + k < (L i).length, (0 : Int) ≤ (k : Int) ∧ (k : Int) < ((z i + 1 : Nat) : Int), Fits .i64 ((k : Int) + 1)])
  | 0, _ => r3_parts4 (by kernel_rfl) (by kernel_rfl) (by kernel_rfl) (by kernel_rfl)
  | 1, _ => r3_parts4 (by kernel_rfl) (by kernel_rfl) (by kernel_rfl) (by kernel_rfl)
  | 2, _ => r3_parts4 (by kernel_rfl) (by kernel_rfl) (by kernel_rfl) (by kernel_rfl)
  | 3, _ => r3_parts4 (by kernel_rfl) (by kernel_rfl) (by kernel_rfl) (by kernel_rfl)
  | 4, _ => r3_parts4 (by kernel_rfl) (by kernel_rfl) (by kernel_rfl) (by kernel_rfl)
  | 5, _ => r3_parts4 (by kernel_rfl) (by kernel_rfl) (by kernel_rfl) (by kernel_rfl)
  | 6, _ => r3_parts4 (by kernel_rfl) (by kernel_rfl) (by kernel_rfl) (by kernel_rfl)
  | 7, _ => r3_parts4 (by kernel_rfl) (by kernel_rfl) (by kernel_rfl) (by kernel_rfl)
  | i + 8, h => absurd h (by omega)
theorem w4_end (p : Addr) (a b : Nat → Int) (w o : List Int) (z : Nat → Nat) (L : Nat → List Int) (k : Nat) : ∀ i : Nat, i < 8 → runC (gO p) 900 230 [.br false] w4C ((oK4 ++ [19]).zip (oX4 (i : Int) (k : Int))) (oB a b w o z L) oK4 i13 =
    some (.exit 8, oV4 (i : Int), (oB a b w o z L).map some, [Fits .i64 ((z i + 1 : Nat) : Int), decide ((k : Int) < ((z i + 1 : Nat) : Int)) = false])
  | 0, _ => r3_parts4 (by kernel_rfl) (by kernel_rfl) (by kernel_rfl) (by kernel_rfl)
  | 1, _ => r3_parts4 (by kernel_rfl) (by kernel_rfl) (by kernel_rfl) (by kernel_rfl)
  | 2, _ => r3_parts4 (by kernel_rfl) (by kernel_rfl) (by kernel_rfl) (by kernel_rfl)
  | 3, _ => r3_parts4 (by kernel_rfl) (by kernel_rfl) (by kernel_rfl) (by kernel_rfl)
  | 4, _ => r3_parts4 (by kernel_rfl) (by kernel_rfl) (by kernel_rfl) (by kernel_rfl)
  | 5, _ => r3_parts4 (by kernel_rfl) (by kernel_rfl) (by kernel_rfl) (by kernel_rfl)
  | 6, _ => r3_parts4 (by kernel_rfl) (by kernel_rfl) (by kernel_rfl) (by kernel_rfl)
  | 7, _ => r3_parts4 (by kernel_rfl) (by kernel_rfl) (by kernel_rfl) (by kernel_rfl)
  | i + 8, h => absurd h (by omega)
end Go.Proofs.Tryd

namespace Go.Proofs.Tryd
open Go Go.Vx
/-! ### DigestOwn: the appends -/
abbrev nilS : SV := .raw (.slice none 0 0)
def lP (i j : Nat) : SV := selI i j (.own (14 + j)) nilS
def mP (z : Nat → Nat) (i j : Nat) : SV := match Nat.beq j i with | true => oRV z j | false => lP i j
def lg (X : Nat → List Int) : Nat → List Body
  | 0 => []
  | i + 1 => lg X i ++ [.ints .u8 (X i)]
abbrev lC (f : Nat → SV) : Body := .cells [f 0, f 1, f 2, f 3, f 4, f 5, f 6, f 7]
noncomputable abbrev oS (a b : Nat → Int) (w o : List Int) (z : Nat → Nat) (L X : Nat → List Int) (i : Nat) : List Body := oB a b w o z L ++ (lC (lP i) :: lg X i)
noncomputable abbrev oM (a b : Nat → Int) (w o : List Int) (z : Nat → Nat) (L X : Nat → List Int) (i : Nat) : List Body := oB a b w o z L ++ (lC (mP z i) :: lg X i)
noncomputable abbrev oT (a b : Nat → Int) (w o : List Int) (z : Nat → Nat) (L X : Nat → List Int) (i : Nat) (l : List Int) : List Body := oB a b w o z L ++ (lC (lP (i + 1)) :: (lg X i ++ [.ints .u8 l]))
abbrev oK5 : List Nat := [7, 9, 11, 15, 16, 20, 21]
abbrev oV5 (i : Int) : List SV := [.ptr 0 0, .ptr 1 0, .ptr 2 0, .own 3, .own 4, .ptr 13 0, .lit .i64 i]
abbrev oX5 (i k : Int) : List SV := [.ptr 0 0, .ptr 1 0, .ptr 2 0, .own 3, .own 4, .ptr 13 0, .lit .i64 i, .int .i64 k]
noncomputable abbrev o5C : Code := bodyAt Tryd.prog 6 37
noncomputable abbrev a5C : Code := bodyAt Tryd.prog 6 41
noncomputable abbrev b5C : Code := match dropSeq 1 o5C with | .seq (.block _ c) _ => c | _ => .skip
noncomputable abbrev r5C : Code := match dropSeq 1 o5C with | .seq _ c => c | _ => .skip
theorem o5_drop : dropSeq 1 o5C = .seq (.block 11 b5C) r5C := by kernel_rfl
theorem b5_drop : dropSeq 2 b5C = .block 12 (.loop a5C) := by kernel_rfl
section
variable (p : Addr) (a b : Nat → Int) (w o : List Int) (z : Nat → Nat) (L X : Nat → List Int)
theorem o5_in : ∀ i : Nat, i < 8 → runC (gO p) 900 230 [] (takeSeq 1 o5C) (oK5.zip (oV5 (i : Int))) (oS a b w o z L X i) oK5 (upto (14 + i)) =
    some (.normal, oV5 (i : Int), (oS a b w o z L X i).map some, [])
  | 0, _ => r3_parts4 (by kernel_rfl) (by kernel_rfl) (by kernel_rfl) (by kernel_rfl)
  | 1, _ => r3_parts4 (by kernel_rfl) (by kernel_rfl) (by kernel_rfl) (by kernel_rfl)
  | 2, _ => r3_parts4 (by kernel_rfl) (by kernel_rfl) (by kernel_rfl) (by kernel_rfl)
  | 3, _ => r3_parts4 (by kernel_rfl) (by kernel_rfl) (by kernel_rfl) (by kernel_rfl)
  | 4, _ => r3_parts4 (by kernel_rfl) (by kernel_rfl) (by kernel_rfl) (by kernel_rfl)
  | 5, _ => r3_parts4 (by kernel_rfl) (by kernel_rfl) (by kernel_rfl) (by kernel_rfl)
  | 6, _ => r3_parts4 (by kernel_rfl) (by kernel_rfl) (by kernel_rfl) (by kernel_rfl)
  | 7, _ => r3_parts4 (by kernel_rfl) (by kernel_rfl) (by kernel_rfl) (by kernel_rfl)
  | i + 8, h => absurd h (by omega)
theorem b5_in : ∀ i : Nat, i < 8 → runC (gO p) 900 230 [] (takeSeq 2 b5C) (oK5.zip (oV5 (i : Int))) (oS a b w o z L X i) (oK5 ++ [22]) (upto (14 + i)) =
    some (.normal, oV5 (i : Int) ++ [SV.lit .i64 0], (oM a b w o z L X i).map some, [])
  | 0, _ => r3_parts4 (by kernel_rfl) (by kernel_rfl) (by kernel_rfl) (by kernel_rfl)
  | 1, _ => r3_parts4 (by kernel_rfl) (by kernel_rfl) (by kernel_rfl) (by kernel_rfl)
  | 2, _ => r3_parts4 (by kernel_rfl) (by kernel_rfl) (by kernel_rfl) (by kernel_rfl)
  | 3, _ => r3_parts4 (by kernel_rfl) (by kernel_rfl) (by kernel_rfl) (by kernel_rfl)
  | 4, _ => r3_parts4 (by kernel_rfl) (by kernel_rfl) (by kernel_rfl) (by kernel_rfl)
  | 5, _ => r3_parts4 (by kernel_rfl) (by kernel_rfl) (by kernel_rfl) (by kernel_rfl)
  | 6, _ => r3_parts4 (by kernel_rfl) (by kernel_rfl) (by kernel_rfl) (by kernel_rfl)
  | 7, _ => r3_parts4 (by kernel_rfl) (by kernel_rfl) (by kernel_rfl) (by kernel_rfl)
  | i + 8, h => absurd h (by omega)
theorem a5_0 : ∀ i : Nat, i < 8 → runC (gO p) 900 230 [] a5C ((oK5 ++ [22]).zip (oV5 (i : Int) ++ [SV.lit .i64 0])) (oM a b w o z L X i) (oK5 ++ [22]) (upto (14 + i) ++ [15 + i]) =
    some (.normal, oV5 (i : Int) ++ [SV.lit .i64 1], (oT a b w o z L X i (((L i).drop 0).take (z i + 1) ++ [100 + (i : Int)])).map some, [(((L i).drop 0).take (z i + 1) ++ [100 + (i : Int)]).length * 1 ≤ 2 ^ 47, 0 < [100 + (i : Int)].length, z i + 1 = 0 + (z i + 1), 0 + (z i + 1) ≤ (L i).length])
  | 0, _ => r3_parts4 (by kernel_rfl) (by kernel_rfl) (by kernel_rfl) (by kernel_rfl)
  | 1, _ => r3_parts4 (by kernel_rfl) (by kernel_rfl) (by kernel_rfl) (by kernel_rfl)
  | 2, _ => r3_parts4 (by kernel_rfl) (by kernel_rfl) (by kernel_rfl) (by kernel_rfl)
  | 3, _ => r3_parts4 (by kernel_rfl) (by kernel_rfl) (by kernel_rfl) (by kernel_rfl)
  | 4, _ => r3_parts4 (by kernel_rfl) (by kernel_rfl) (by kernel_rfl) (by kernel_rfl)
  | 5, _ => r3_parts4 (by kernel_rfl) (by kernel_rfl) (by kernel_rfl) (by kernel_rfl)
  | 6, _ => r3_parts4 (by kernel_rfl) (by kernel_rfl) (by kernel_rfl) (by kernel_rfl)
  | 7, _ => r3_parts4 (by kernel_rfl) (by kernel_rfl) (by kernel_rfl) (by kernel_rfl)
  | i + 8, h => absurd h (by omega)
variable (l : List Int) (k : Nat)
theorem a5_go : ∀ i : Nat, i < 8 → runC (gO p) 900 230 [.br true] a5C ((oK5 ++ [22]).zip (oX5 (i : Int) (k : Int))) (oT a b w o z L X i l) (oK5 ++ [22]) (upto (14 + i) ++ [16 + i]) =
    some (.normal, oX5 (i : Int) ((k : Int) + 1), (oT a b w o z L X i (l ++ [100 + (i : Int)])).map some, [decide ((k : Int) < 70) = true, (l ++ [100 + (i : Int)]).length * 1 ≤ 2 ^ 47, Fits .i64 ((k : Int) + 1)])
  | 0, _ => r3_parts4 (by kernel_rfl) (by kernel_rfl) (by kernel_rfl) (by kernel_rfl)
  | 1, _ => r3_parts4 (by kernel_rfl) (by kernel_rfl) (by kernel_rfl) (by kernel_rfl)
  | 2, _ => r3_parts4 (by kernel_rfl) (by kernel_rfl) (by kernel_rfl) (by kernel_rfl)
  | 3, _ => r3_parts4 (by kernel_rfl) (by kernel_rfl) (by kernel_rfl) (by kernel_rfl)
  | 4, _ => r3_parts4 (by kernel_rfl) (by kernel_rfl) (by kernel_rfl) (by kernel_rfl)
  | 5, _ => r3_parts4 (by kernel_rfl) (by kernel_rfl) (by kernel_rfl) (by kernel_rfl)
  | 6, _ => r3_parts4 (by kernel_rfl) (by kernel_rfl) (by kernel_rfl) (by kernel_rfl)
  | 7, _ => r3_parts4 (by kernel_rfl) (by kernel_rfl) (by kernel_rfl) (by kernel_rfl)
  | i + 8, h => absurd h (by omega)
theorem a5_end : ∀ i : Nat, i < 8 → runC (gO p) 900 230 [.br false] a5C ((oK5 ++ [22]).zip (oX5 (i : Int) (k : Int))) (oT a b w o z L X i l) oK5 (upto (15 + i)) =
    some (.exit 12, oV5 (i : Int), (oT a b w o z L X i l).map some, [decide ((k : Int) < 70) = false])
  | 0, _ => r3_parts4 (by kernel_rfl) (by kernel_rfl) (by kernel_rfl) (by kernel_rfl)
  | 1, _ => r3_parts4 (by kernel_rfl) (by kernel_rfl) (by kernel_rfl) (by kernel_rfl)
  | 2, _ => r3_parts4 (by kernel_rfl) (by kernel_rfl) (by kernel_rfl) (by kernel_rfl)
  | 3, _ => r3_parts4 (by kernel_rfl) (by kernel_rfl) (by kernel_rfl) (by kernel_rfl)
  | 4, _ => r3_parts4 (by kernel_rfl) (by kernel_rfl) (by kernel_rfl) (by kernel_rfl)
  | 5, _ => r3_parts4 (by kernel_rfl) (by kernel_rfl) (by kernel_rfl) (by kernel_rfl)
  | 6, _ => r3_parts4 (by kernel_rfl) (by kernel_rfl) (by kernel_rfl) (by kernel_rfl)
  | 7, _ => r3_parts4 (by kernel_rfl) (by kernel_rfl) (by kernel_rfl) (by kernel_rfl)
  | i + 8, h => absurd h (by omega)
theorem r5_next : ∀ i : Nat, i < 8 → runC (gO p) 900 230 [] r5C (oK5.zip (oV5 (i : Int))) (oT a b w o z L X i l) oK5 (upto (15 + i)) =
    some (.normal, oV5 ((i : Int) + 1), (oT a b w o z L X i l).map some, [])
  | 0, _ => r3_parts4 (by kernel_rfl) (by kernel_rfl) (by kernel_rfl) (by kernel_rfl)
  | 1, _ => r3_parts4 (by kernel_rfl) (by kernel_rfl) (by kernel_rfl) (by kernel_rfl)
  | 2, _ => r3_parts4 (by kernel_rfl) (by kernel_rfl) (by kernel_rfl) (by kernel_rfl)
  | 3, _ => r3_parts4 (by kernel_rfl) (by kernel_rfl) (by kernel_rfl) (by kernel_rfl)
  | 4, _ => r3_parts4 (by kernel_rfl) (by kernel_rfl) (by kernel_rfl) (by kernel_rfl)
  | 5, _ => r3_parts4 (by kernel_rfl) (by kernel_rfl) (by kernel_rfl) (by kernel_rfl)
  | 6, _ => r3_parts4 (by kernel_rfl) (by kernel_rfl) (by kernel_rfl) (by kernel_rfl)
  | 7, _ => r3_parts4 (by kernel_rfl) (by kernel_rfl) (by kernel_rfl) (by kernel_rfl)
  | i + 8, h => absurd h (by omega)
theorem o5_end : runC (gO p) 900 230 [] o5C (oK5.zip (oV5 8)) (oS a b w o z L X 8) [7, 9, 11, 15, 16, 20] (upto 22) =
    some (.exit 10, [.ptr 0 0, .ptr 1 0, .ptr 2 0, .own 3, .own 4, .ptr 13 0], (oS a b w o z L X 8).map some, []) := r3_parts4 (by kernel_rfl) (by kernel_rfl) (by kernel_rfl) (by kernel_rfl)
end
end Go.Proofs.Tryd
