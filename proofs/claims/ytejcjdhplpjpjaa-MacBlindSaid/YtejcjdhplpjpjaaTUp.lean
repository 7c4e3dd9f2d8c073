/- Accounts of this seat's functions: lemmas, no statement of their own. No conditions. -/
import Derived.Test.YtejcjdhplpjpjaaTUn
import Derived.Test.YtejcjdhplpjpjaaTC
import Derived.Test.YtejcjdhplpjpjaaV5
namespace Go.Proofs.Ytejcjdhplpjpjaa
open Go Go.Vx
/-! ### MacBlind: the runs -/
noncomputable abbrev gB : Ctx := gV.add [(33, F33), (34, F34)]
theorem gB_ok : CtxU gB := gV_ok.add mixed noGo (by
  intro x hx
  simp only [List.mem_cons, List.not_mem_nil, or_false] at hx
  rcases hx with rfl | rfl
  · exact Acc.of (g := gsq) rfl rfl acc33
  · exact Acc.of (g := gx) rfl rfl acc34)
noncomputable abbrev blC : Code := match Try.f10.body with | some c => c | none => .skip
noncomputable abbrev blL : Code := bodyAt Try.prog 10 7
noncomputable abbrev bl1 : Code := match blL with | .seq a _ => a | _ => .skip
noncomputable abbrev bl9 : Code := match blL with | .seq _ (.seq (.block _ (.seq a _)) _) => a | _ => .skip
noncomputable abbrev bl10 : Code := match blL with | .seq _ (.seq (.block _ (.seq _ (.seq (.seq a _) _))) _) => a | _ => .skip
noncomputable abbrev bl15 : Code := match blL with | .seq _ (.seq (.block _ (.seq _ (.seq _ a))) _) => a | _ => .skip
noncomputable abbrev bl8 : Code := match blL with | .seq _ (.seq _ a) => a | _ => .skip
noncomputable abbrev bl6 : Code := match dropSeq 5 blC with | .seq (.seq a _) _ => a | _ => .skip
noncomputable abbrev biL : Code := bodyAt Try.prog 10 11
theorem blL_eq : blL = .seq bl1 (.seq (.block 1 (.seq bl9 (.seq (.seq bl10 (.block 2 (.loop biL))) bl15))) bl8) := by kernel_rfl
theorem bl_5 : dropSeq 5 blC = .seq (.seq bl6 (.block 0 (.loop blL))) (dropSeq 6 blC) := by kernel_rfl
abbrev blKeep : List Nat := [2, 3, 5, 6, 9, 11, 12, 13, 14]
noncomputable abbrev blO (d : Nat → List Int) (m : Nat) (o : List Int) (i : Int) : List SV := [.ro 1 m (rowL d), .roi .u8 o, .ptr 0 0, .ptr 1 0, .ptr 2 0, .ptr 3 0, .ptr 4 0, .own 5, .int .i64 i]
noncomputable abbrev blS (d : Nat → List Int) (m : Nat) (o : List Int) (i : Nat) : List (Nat × SV) := blKeep.zip (blO d m o (i : Int))
noncomputable abbrev blB5 (k1 k2 t : Nat → Int) : List Body := [.cells (svF (List.replicate 32 .u8) k1 0), .cells (svF (List.replicate 32 .u8) k2 0), .cells (svF (List.replicate 16 .u8) t 0), .log [], .log []]
noncomputable abbrev blB (k1 k2 t : Nat → Int) (L : List (List Int)) : List Body := [.cells (svF (List.replicate 32 .u8) k1 0), .cells (svF (List.replicate 32 .u8) k2 0), .cells (svF (List.replicate 16 .u8) t 0), .log [], .log [], .lists .u8 L]
theorem bl_r1 (d : Nat → List Int) (m : Nat) (o : List Int) (i : Nat) (k1 k2 t : Nat → Int) (L : List (List Int)) : runC gB 300 111 [.br true] bl1 (blS d m o i) (blB k1 k2 t L) blKeep [0, 1, 2, 3, 4, 5] =
    some (.normal, blO d m o (i : Int), (blB k1 k2 t L).map some, [Fits .i64 (m : Int), decide ((i : Int) < (m : Int)) = true]) :=
  r3_parts4 (by kernel_rfl) (by kernel_rfl) (by kernel_rfl) (by kernel_rfl)
theorem bl_end (d : Nat → List Int) (m : Nat) (o : List Int) (i : Nat) (k1 k2 t : Nat → Int) (L : List (List Int)) : runC gB 300 111 [.br false] blL (blS d m o i) (blB k1 k2 t L) blKeep [0, 1, 2, 3, 4, 5] =
    some (.exit 0, blO d m o (i : Int), (blB k1 k2 t L).map some, [Fits .i64 (m : Int), decide ((i : Int) < (m : Int)) = false]) :=
  r3_parts4 (by kernel_rfl) (by kernel_rfl) (by kernel_rfl) (by kernel_rfl)
abbrev b9Keep : List Nat := [2, 3, 5, 6, 9, 11, 12, 13, 14, 15]
noncomputable abbrev b9O (d : Nat → List Int) (m : Nat) (o : List Int) (i : Int) (n : Nat) : List SV := [.ro 1 m (rowL d), .roi .u8 o, .ptr 0 0, .ptr 1 0, .ptr 2 0, .ptr 3 0, .ptr 4 0, .own 5, .int .i64 i, .sl 6 n 0 1 0 n false]
noncomputable abbrev b9B (k1 k2 t : Nat → Int) (L : List (List Int)) (z : List Int) : List Body := [.cells (svF (List.replicate 32 .u8) k1 0), .cells (svF (List.replicate 32 .u8) k2 0), .cells (svF (List.replicate 16 .u8) t 0), .log [], .log [], .lists .u8 L, .ints .u8 z]
theorem bl_r9 (d : Nat → List Int) (m : Nat) (o : List Int) (i : Nat) (k1 k2 t : Nat → Int) (L : List (List Int)) : runC gB 300 111 [] bl9 (blS d m o i) (blB k1 k2 t L) b9Keep [0, 1, 2, 3, 4, 5, 6] =
    some (.normal, b9O d m o (i : Int) (d i).length, (b9B k1 k2 t L (List.replicate (d i).length 0)).map some, [0 ≤ ((d i).length : Int) ∧ ((d i).length : Int) = ((d i).length : Int) ∧ (d i).length * 1 ≤ 2 ^ 47, Fits .i64 ((d i).length : Int), (0 : Int) ≤ (i : Int) ∧ (i : Int) < (m : Int)]) :=
  r3_parts4 (by kernel_rfl) (by kernel_rfl) (by kernel_rfl) (by kernel_rfl)
abbrev biKeep : List Nat := [2, 3, 5, 6, 9, 11, 12, 13, 14, 15, 16]
noncomputable abbrev biO (d : Nat → List Int) (m : Nat) (o : List Int) (i : Int) (n : Nat) (c : Int) : List SV := [.ro 1 m (rowL d), .roi .u8 o, .ptr 0 0, .ptr 1 0, .ptr 2 0, .ptr 3 0, .ptr 4 0, .own 5, .int .i64 i, .sl 6 n 0 1 0 n false, .int .i64 c]
noncomputable abbrev biS (d : Nat → List Int) (m : Nat) (o : List Int) (i n c : Nat) : List (Nat × SV) := biKeep.zip (biO d m o (i : Int) n (c : Int))
theorem bl_r10 (d : Nat → List Int) (m : Nat) (o : List Int) (i n : Nat) (k1 k2 t : Nat → Int) (L : List (List Int)) (z : List Int) : runC gB 300 111 [] bl10 (b9Keep.zip (b9O d m o (i : Int) n)) (b9B k1 k2 t L z) biKeep [0, 1, 2, 3, 4, 5, 6] =
    some (.normal, [.ro 1 m (rowL d), .roi .u8 o, .ptr 0 0, .ptr 1 0, .ptr 2 0, .ptr 3 0, .ptr 4 0, .own 5, .int .i64 (i : Int), .sl 6 n 0 1 0 n false, .lit .i64 0], (b9B k1 k2 t L z).map some, []) :=
  r3_parts4 (by kernel_rfl) (by kernel_rfl) (by kernel_rfl) (by kernel_rfl)
abbrev biV (o : List Int) (c : Nat) : Int := o.getD ((c : Int).tmod (o.length : Int)).toNat 0
theorem bi_go1 (d : Nat → List Int) (m : Nat) (o : List Int) (i n c : Nat) (k1 k2 t : Nat → Int) (L : List (List Int)) (z : List Int) : runC gB 300 111 [.br true, .br true] biL (biS d m o i n c) (b9B k1 k2 t L z) biKeep [0, 1, 2, 3, 4, 5, 6] =
    some (.normal, biO d m o (i : Int) n ((c : Int) + 1), (b9B k1 k2 t L (z.set (0 + c + 0) (biV o c))).map some, [Fits .i64 (n : Int), decide ((c : Int) < (n : Int)) = true, Fits .i64 (o.length : Int), decide ((0 : Int) < (o.length : Int)) = true, 0 + c + 0 < z.length, (0 : Int) ≤ (c : Int) ∧ (c : Int) < (n : Int), (0 : Int) ≤ (c : Int).tmod (o.length : Int) ∧ (c : Int).tmod (o.length : Int) < (o.length : Int), (0 : Int) < (o.length : Int), Fits .i64 (o.length : Int), Fits .i64 ((c : Int) + 1)]) :=
  r3_parts4 (by kernel_rfl) (by kernel_rfl) (by kernel_rfl) (by kernel_rfl)
theorem bi_go0 (d : Nat → List Int) (m : Nat) (o : List Int) (i n c : Nat) (k1 k2 t : Nat → Int) (L : List (List Int)) (z : List Int) : runC gB 300 111 [.br true, .br false] biL (biS d m o i n c) (b9B k1 k2 t L z) biKeep [0, 1, 2, 3, 4, 5, 6] =
    some (.normal, biO d m o (i : Int) n ((c : Int) + 1), (b9B k1 k2 t L z).map some, [Fits .i64 (n : Int), decide ((c : Int) < (n : Int)) = true, Fits .i64 (o.length : Int), decide ((0 : Int) < (o.length : Int)) = false, Fits .i64 ((c : Int) + 1)]) :=
  r3_parts4 (by kernel_rfl) (by kernel_rfl) (by kernel_rfl) (by kernel_rfl)
theorem bi_end (d : Nat → List Int) (m : Nat) (o : List Int) (i n c : Nat) (k1 k2 t : Nat → Int) (L : List (List Int)) (z : List Int) : runC gB 300 111 [.br false] biL (biS d m o i n c) (b9B k1 k2 t L z) b9Keep [0, 1, 2, 3, 4, 5, 6] =
    some (.exit 2, b9O d m o (i : Int) n, (b9B k1 k2 t L z).map some, [Fits .i64 (n : Int), decide ((c : Int) < (n : Int)) = false]) :=
  r3_parts4 (by kernel_rfl) (by kernel_rfl) (by kernel_rfl) (by kernel_rfl)
theorem bl_r15 (d : Nat → List Int) (m : Nat) (o : List Int) (i : Nat) (k1 k2 t : Nat → Int) (L : List (List Int)) (e : List Int) : runC gB 300 111 [] bl15 (b9Keep.zip [.ro 1 m (rowL d), .roi .u8 o, .ptr 0 0, .ptr 1 0, .ptr 2 0, .ptr 3 0, .ptr 4 0, .own 5, .int .i64 (i : Int), .roi .u8 e]) (blB k1 k2 t L) blKeep [0, 1, 2, 3, 4, 7] =
    some (.normal, blO d m o (i : Int), (blB k1 k2 t (L ++ [e])).map some, [(L ++ [e]).length * 24 ≤ 2 ^ 47]) :=
  r3_parts4 (by kernel_rfl) (by kernel_rfl) (by kernel_rfl) (by kernel_rfl)
theorem bl_r8 (d : Nat → List Int) (m : Nat) (o : List Int) (i : Nat) (k1 k2 t : Nat → Int) (L : List (List Int)) : runC gB 300 111 [] bl8 (blS d m o i) (blB k1 k2 t L) blKeep [0, 1, 2, 3, 4, 5] =
    some (.normal, blO d m o ((i : Int) + 1), (blB k1 k2 t L).map some, [Fits .i64 ((i : Int) + 1)]) :=
  r3_parts4 (by kernel_rfl) (by kernel_rfl) (by kernel_rfl) (by kernel_rfl)
abbrev lXB (d : Nat → List Int) (m : Nat) : Bool := decide (400 < m ∨ stp d m < m)
noncomputable abbrev blA (k1 k2 t : Nat → Int) (d : Nat → List Int) (m : Nat) (o : List Int) : List SV := [.agg (svF (List.replicate 32 .u8) k1 0), .agg (svF (List.replicate 32 .u8) k2 0), .ro 1 m (rowL d), .roi .u8 o, .agg (svF (List.replicate 16 .u8) t 0)]
theorem bl_run2 (d : Nat → List Int) (m : Nat) (o : List Int) (k1 k2 t : Nat → Int) : runF gB 900 [.br true] 10 (blA k1 k2 t d m o) [] [] = some (.bool true, [], lC (rowL d) m ++ [lXB d m = true]) :=
  run_parts (by kernel_rfl) (by kernel_rfl) (by kernel_rfl)
abbrev bpKeep : List Nat := [2, 3, 5, 6, 9, 11, 12, 13]
theorem bl_pre (d : Nat → List Int) (m : Nat) (o : List Int) (k1 k2 t : Nat → Int) : runC gB 900 111 [.br false] (takeSeq 5 blC) ([0, 1, 2, 3, 4].zip (blA k1 k2 t d m o)) [] bpKeep [0, 1, 2, 3, 4] =
    some (.normal, [.ro 1 m (rowL d), .roi .u8 o, .ptr 0 0, .ptr 1 0, .ptr 2 0, .ptr 3 0, .ptr 4 0, .raw (.slice none 0 0)], (blB5 k1 k2 t).map some, lC (rowL d) m ++ [lXB d m = false]) :=
  r3_parts4 (by kernel_rfl) (by kernel_rfl) (by kernel_rfl) (by kernel_rfl)
theorem bl_r6 (d : Nat → List Int) (m : Nat) (o : List Int) (k1 k2 t : Nat → Int) : runC gB 300 111 [] bl6 (bpKeep.zip [.ro 1 m (rowL d), .roi .u8 o, .ptr 0 0, .ptr 1 0, .ptr 2 0, .ptr 3 0, .ptr 4 0, .raw (.slice none 0 0)]) (blB5 k1 k2 t) blKeep [0, 1, 2, 3, 4] =
    some (.normal, [.ro 1 m (rowL d), .roi .u8 o, .ptr 0 0, .ptr 1 0, .ptr 2 0, .ptr 3 0, .ptr 4 0, .raw (.slice none 0 0), .lit .i64 0], (blB5 k1 k2 t).map some, []) :=
  r3_parts4 (by kernel_rfl) (by kernel_rfl) (by kernel_rfl) (by kernel_rfl)
abbrev bT (d : Nat → List Int) (m : Nat) : List (List Int) := [] ++ ofT d m
noncomputable abbrev bK (k t : Nat → Int) (d : Nat → List Int) (m : Nat) : Bool := CK (kk k) (atL (listF 16 t 0)) (xZ d m)
noncomputable abbrev bTL (k t : Nat → Int) (d : Nat → List Int) (m : Nat) : List (List Int) := (bT d m ++ ofT d m) ++ [[1, bI (bK k t d m)]]
noncomputable abbrev b24 (k t : Nat → Int) (d : Nat → List Int) (m : Nat) : List Prop := [Fits .i64 ((runsL (bTL k t d m)).length : Int), (!decide (((bTL k t d m).length : Int) = 2 * ((bT d m).length : Int) + 1)) = false, Fits .i64 (2 * ((bT d m).length : Int) + 1), Fits .i64 (2 * ((bT d m).length : Int)), decide (((bT d m).length : Int) < 2) = false, decide (((runsL (bTL k t d m)).length : Int) = 0) = false]
theorem bl_rest (d d2 : Nat → List Int) (m : Nat) (k1 k2 t : Nat → Int) : runC gB 900 111 [.br false, .br false, .br false, .br false, .br true] (dropSeq 6 blC) ([2, 5, 6, 9, 11, 12, 13].zip [.ro 1 m (rowL d), .ptr 0 0, .ptr 1 0, .ptr 2 0, .ptr 3 0, .ptr 4 0, .ro 1 m (rowL d2)]) (blB5 k1 k2 t) [10] [] =
    some (.ret, [.sbool true], ([] : List Body).map some, olC (rowL d) m [] ++ (olC (rowL d2) m [] ++ ([(bT d m).length ≤ 140737488355328, (bT d2 m).length ≤ 140737488355328, (!decide (bT d m = bT d2 m)) = false] ++
      ((((bT d m ++ ofT d m).length < 1099511627776) :: olC (rowL d) m (bT d m)) ++ ((((bT d2 m ++ ofT d2 m).length < 1099511627776) :: olC (rowL d2) m (bT d2 m)) ++ ([(bTL k1 t d m).length * 24 ≤ 140737488355328] ++ (b24 k1 t d m ++
      [(decide (bTL k1 t d m = bTL k2 t d2 m) == (bK k1 t d m == bK k2 t d2 m)) = true, (bTL k1 t d m).length ≤ 140737488355328, (bTL k2 t d2 m).length ≤ 140737488355328]))))))) :=
  r3_parts4 (by kernel_rfl) (by kernel_rfl) (by kernel_rfl) (by kernel_rfl)
end Go.Proofs.Ytejcjdhplpjpjaa

namespace Go.Proofs.Ytejcjdhplpjpjaa
open Go Go.Vx
/-! ### MacBlind: the twins -/
def cyA (o z : List Int) : Nat → List Int
  | 0 => z
  | c + 1 => if 0 < o.length then (cyA o z c).set (0 + c + 0) (biV o c) else cyA o z c
theorem cyA_len (o z : List Int) : ∀ c, (cyA o z c).length = z.length
  | 0 => rfl
  | c + 1 => by
    simp only [cyA]
    split
    · rw [List.length_set]; exact cyA_len o z c
    · exact cyA_len o z c
theorem biV_fit {o : List Int} (ho : ∀ n ∈ o, Fits .u8 n) (c : Nat) : Fits .u8 (biV o c) := by
  show Fits .u8 (o.getD _ 0)
  rw [List.getD_eq_getElem?_getD]
  cases e : o[((c : Int).tmod (o.length : Int)).toNat]? with
  | none => exact ⟨by decide, by decide⟩
  | some x => exact ho x (List.mem_of_getElem? e)
theorem cyA_fit {o z : List Int} (ho : ∀ n ∈ o, Fits .u8 n) (hz : ∀ n ∈ z, Fits .u8 n) : ∀ c, ∀ n ∈ cyA o z c, Fits .u8 n
  | 0, n, h => hz n h
  | c + 1, n, h => by
    simp only [cyA] at h
    split at h
    · rcases List.mem_or_eq_of_mem_set h with h | rfl
      · exact cyA_fit ho hz c n h
      · exact biV_fit ho c
    · exact cyA_fit ho hz c n h
abbrev bwE (o : List Int) (n : Nat) : List Int := ((cyA o (List.replicate n 0) n).drop (0 + 0)).take n
theorem bwE_len (o : List Int) (n : Nat) : (bwE o n).length = n := by
  show (((cyA o (List.replicate n 0) n).drop (0 + 0)).take n).length = n
  rw [List.length_take, List.length_drop, cyA_len, List.length_replicate]; omega
theorem bwE_fit {o : List Int} (ho : ∀ n ∈ o, Fits .u8 n) (n : Nat) : ∀ x ∈ bwE o n, Fits .u8 x := fun x hx =>
  cyA_fit ho (fun y hy => by rw [(List.mem_replicate.1 hy).2]; exact ⟨by decide, by decide⟩) n x (List.mem_of_mem_drop (List.mem_of_mem_take hx))
def blLs (d : Nat → List Int) (o : List Int) : Nat → List (List Int)
  | 0 => []
  | i + 1 => blLs d o i ++ [bwE o (d i).length]
theorem blLs_len (d : Nat → List Int) (o : List Int) : ∀ i, (blLs d o i).length = i
  | 0 => rfl
  | i + 1 => by simp [blLs, blLs_len d o i]
theorem blLs_get (d : Nat → List Int) (o : List Int) : ∀ {m i : Nat}, i < m → (blLs d o m).getD i [] = bwE o (d i).length
  | m + 1, i, h => by
    simp only [blLs]
    rw [List.getD_eq_getElem?_getD]
    by_cases c : i < m
    · rw [List.getElem?_append_left (by rw [blLs_len]; exact c), ← List.getD_eq_getElem?_getD]
      exact blLs_get d o c
    · have e : i = m := by omega
      subst e
      rw [List.getElem?_append_right (by rw [blLs_len]; exact Nat.le_refl _), blLs_len]
      simp
abbrev dT (d : Nat → List Int) (o : List Int) (m : Nat) : Nat → List Int := fun j => (blLs d o m).getD j []
theorem tmod_in {c n : Nat} (h : 0 < n) : (0 : Int) ≤ (c : Int).tmod (n : Int) ∧ (c : Int).tmod (n : Int) < (n : Int) :=
  ⟨Int.tmod_nonneg _ (by omega), Int.tmod_lt_of_pos _ (by omega)⟩
theorem bl_round {W : World} {OW : Go.Vx.Own} (d : Nat → List Int) (m : Nat) (o : List Int) (k1 k2 t : Nat → Int) (hm : m ≤ 400) (hl : ∀ i, i < m → (d i).length ≤ 131072) (Fo : Fits .i64 (o.length : Int)) (i : Nat) (hi : i < m) (a : Act) (w : World)
    (h : StG gB W OW 111 (blS d m o i) (blB k1 k2 t (blLs d o i)) a w) (Q : Exit → Act → World → Prop) (hq : ∀ a' w', StG gB W OW 111 (blS d m o (i + 1)) (blB k1 k2 t (blLs d o (i + 1))) a' w' → Q .normal a' w') : blL.wp gB.P Q a w := by
  have Fm : Fits .i64 (m : Int) := fits_of (by omega) (by omega)
  have hli := hl i hi
  have hL := blLs_len d o i
  have hI : (0 : Int) ≤ (i : Int) ∧ (i : Int) < (m : Int) := ⟨by omega, by omega⟩
  have Fn : Fits .i64 ((d i).length : Int) := fits_of (by omega) (by omega)
  generalize hn : (d i).length = n at hli Fn
  rw [blL_eq]
  refine wp_seq (StG.run h gB_ok (by decide) (bl_r1 d m o i k1 k2 t _) (by simp only [allC_cons, allC_nil, and_true]; exact ⟨Fm, decide_eq_true (by omega)⟩) (by decide) (by decide) (by simp) fun a w h => ?_)
  show (Code.seq (.block 1 (.seq bl9 (.seq (.seq bl10 (.block 2 (.loop biL))) bl15))) bl8).wp _ _ a w
  have h9 := bl_r9 d m o i k1 k2 t (blLs d o i)
  rw [hn] at h9
  refine wp_seq (wp_block (wp_seq (StG.run h gB_ok (by decide) h9 (by simp only [allC_cons, allC_nil, and_true]; exact ⟨⟨by omega, trivial, by omega⟩, Fn, hI⟩) (by decide) (by decide) (by simp) fun a w h => ?_)))
  show (Code.seq (.seq bl10 (.block 2 (.loop biL))) bl15).wp _ _ a w
  refine wp_seq (wp_seq (StG.run h gB_ok (by decide) (bl_r10 d m o i n k1 k2 t _ _) (by simp [AllC]) (by decide) (by decide) (by simp) fun a w h => ?_))
  show (Code.block 2 (.loop biL)).wp _ _ a w
  refine wp_block ?_
  have h := StG.pre h (fun t => zip_norm biKeep _ t (by decide))
  have h : StG gB W OW 111 (biS d m o i n 0) (b9B k1 k2 t (blLs d o i) (cyA o (List.replicate n 0) 0)) a w := h
  refine StG.iter (S := fun c => biS d m o i n c) (B := fun c => b9B k1 k2 t (blLs d o i) (cyA o (List.replicate n 0) c)) (N := n) (fun c hc a w h Q' hq => ?_) (fun a w h => ?_) 0 (Nat.zero_le _) a w h
  · have hz := cyA_len o (List.replicate n 0) c
    rw [List.length_replicate] at hz
    have F1 : Fits .i64 ((c : Int) + 1) := fits_of (by omega) (by omega)
    by_cases ho : 0 < o.length
    · have e : cyA o (List.replicate n 0) (c + 1) = (cyA o (List.replicate n 0) c).set (0 + c + 0) (biV o c) := by simp only [cyA]; rw [if_pos ho]
      rw [e] at hq
      exact StG.run h gB_ok (by decide) (bi_go1 d m o i n c k1 k2 t _ _) (by simp only [allC_cons, allC_nil, and_true]; exact ⟨Fn, decide_eq_true (by omega), Fo, decide_eq_true (by omega), by omega, ⟨by omega, by omega⟩, tmod_in ho, by omega, Fo, F1⟩) (by decide) (by decide) (by simp) fun a w h => hq a w h
    · have e : cyA o (List.replicate n 0) (c + 1) = cyA o (List.replicate n 0) c := by simp only [cyA]; rw [if_neg ho]
      rw [e] at hq
      exact StG.run h gB_ok (by decide) (bi_go0 d m o i n c k1 k2 t _ _) (by simp only [allC_cons, allC_nil, and_true]; exact ⟨Fn, decide_eq_true (by omega), Fo, decide_eq_false (by omega), F1⟩) (by decide) (by decide) (by simp) fun a w h => hq a w h
  · refine StG.run h gB_ok (by decide) (bi_end d m o i n n k1 k2 t _ _) (by simp only [allC_cons, allC_nil, and_true]; exact ⟨Fn, decide_eq_false (by omega)⟩) (by decide) (by decide) (by simp) fun a w h => ?_
    simp only [Ex.up, Exit.then, Exit.inBlock, if_true]
    have h2 : StG gB W OW 111 (b9Keep.zip [.ro 1 m (rowL d), .roi .u8 o, .ptr 0 0, .ptr 1 0, .ptr 2 0, .ptr 3 0, .ptr 4 0, .own 5, .int .i64 (i : Int), .roi .u8 (bwE o n)]) (blB k1 k2 t (blLs d o i)) a w := by
      refine StG.freeze (B := blB k1 k2 t (blLs d o i)) (bd := .ints .u8 (cyA o (List.replicate n 0) n)) h (by kernel_rfl) (by decide) rfl fun j c c' h1 h2 => ?_
      match j, h1, h2 with
      | 0, h1, h2 => simp at h1 h2; subst h1; subst h2; exact .inl rfl
      | 1, h1, h2 => simp at h1 h2; subst h1; subst h2; exact .inl rfl
      | 2, h1, h2 => simp at h1 h2; subst h1; subst h2; exact .inl rfl
      | 3, h1, h2 => simp at h1 h2; subst h1; subst h2; exact .inl rfl
      | 4, h1, h2 => simp at h1 h2; subst h1; subst h2; exact .inl rfl
      | 5, h1, h2 => simp at h1 h2; subst h1; subst h2; exact .inl rfl
      | 6, h1, h2 => simp at h1 h2; subst h1; subst h2; exact .inl rfl
      | 7, h1, h2 => simp at h1 h2; subst h1; subst h2; exact .inl rfl
      | 8, h1, h2 => simp at h1 h2; subst h1; subst h2; exact .inl rfl
      | 9, h1, h2 =>
        simp only [List.getElem?_cons_succ, List.getElem?_cons_zero, Option.some.injEq] at h1 h2; subst h1; subst h2
        exact .inr fun w0 O ρ H w Φ O1 x hb hO hm v ρ1 hd => frozen_sl (ρ1 := ρ1) x hb hm (by rw [cyA_len, List.length_replicate]; omega) hd
      | j + 10, h1, _ => simp at h1
    have e3 : blLs d o (i + 1) = blLs d o i ++ [bwE o n] := by simp only [blLs]; rw [hn]
    refine StG.run h2 gB_ok (by decide) (bl_r15 d m o i k1 k2 t _ _) (by simp only [allC_cons, allC_nil, and_true, List.length_append, List.length_singleton]; omega) (by decide) (by decide) (by simp) fun a w h => ?_
    show bl8.wp _ _ a w
    rw [e3] at hq
    exact StG.run h gB_ok (by decide) (bl_r8 d m o i k1 k2 t _) (by simp only [allC_cons, allC_nil, and_true]; exact fits_of (by omega) (by omega)) (by decide) (by decide) (by simp) fun a w h => hq a w h
/-! ### the account -/
theorem ofT_lens {d e : Nat → List Int} {m : Nat} (h : ∀ i, i < m → (d i).length = (e i).length) : ofT d m = ofT e m := by
  have key : ∀ i, i ≤ m → ofH d i = ofH e i ∧ ofE d i = ofE e i := by
    intro i
    induction i with
    | zero => intro _; exact ⟨rfl, rfl⟩
    | succ i ih =>
      intro hi
      obtain ⟨h1, h2⟩ := ih (by omega)
      exact ⟨by simp only [ofH]; rw [h1, h i (by omega)], by simp only [ofE]; rw [h1, h2, h i (by omega)]⟩
  obtain ⟨h1, h2⟩ := key m (Nat.le_refl _)
  rw [ofT, ofT, h1, h2]
theorem ofH_ok {d : Nat → List Int} : ∀ i, 0 ≤ ofH d i ∧ ofH d i < 16
  | 0 => ⟨Int.le_refl 0, by show (0 : Int) < 16; decide⟩
  | i + 1 => by
    have ih := ofH_ok (d := d) i
    simp only [ofH]
    rw [ewH_mod ih (by omega)]
    omega
theorem ofE_len2 {d : Nat → List Int} {m : Nat} (hl : ∀ i, i < m → (d i).length ≤ 131072) : ∀ i, i ≤ m → (ofE d i).length ≤ 131090 * i
  | 0, _ => by simp [ofE]
  | i + 1, h => by
    have ih := ofE_len2 hl i (by omega)
    have hi := hl i (by omega)
    have := evW_len (ofH_ok (d := d) i) (Int.natCast_nonneg (d i).length)
    rw [Int.toNat_natCast] at this
    simp only [ofE, List.length_append, List.length_cons, List.length_nil]
    omega
theorem evT_pos (h : Int) : 1 ≤ (evT h).length := by unfold evT; split <;> simp
theorem ofT_len2 {d : Nat → List Int} {m : Nat} (hm : m ≤ 400) (hl : ∀ i, i < m → (d i).length ≤ 131072) : 2 ≤ (ofT d m).length ∧ (ofT d m).length ≤ 52436010 := by
  have h1 := ofE_len2 hl m (Nat.le_refl _)
  have h2 := evT_len (ofH d m)
  have h3 := evT_pos (ofH d m)
  simp only [ofT, List.length_append, List.length_cons, List.length_nil]
  omega
theorem blind_ok (k1 k2 : Nat → Int) (m : Nat) (d : Nat → List Int) (Fm : Fits .i64 (m : Int)) (hff : ∀ i, i < m → factsC (rowL d i)) (hLB : LB d m) (o : List Int) (zo : o.length * Try.prog.bytesOf 5 ≤ 140737488351232) (t : Nat → Int) :
    FnOk gB 10 (blA k1 k2 t d m o) [] { val := .bool true } := by
  rw [show Try.prog.bytesOf 5 = 1 by kernel_rfl] at zo
  have Fo : Fits .i64 (o.length : Int) := fits_of (by omega) (by omega)
  have hc : AllC (lC (rowL d) m) := by
    simp only [lC, allC_cons, allC_nil, and_true]; exact ⟨rfl, Fm, hLB⟩
  refine FnOk.facts fun hfs => ?_
  have ho : ∀ n ∈ o, Fits .u8 n := hfs.2.2.2.1
  by_cases hX : 400 < m ∨ stp d m < m
  · exact FnOk.pure gB_ok (bl_run2 d m o k1 k2 t) (allC_append.2 ⟨hc, by simp only [allC_cons, allC_nil, and_true]; exact decide_eq_true hX⟩)
  · have hm : m ≤ 400 := by omega
    have hs : stp d m = m := by have := stp_le d m; omega
    have hl : ∀ i, i < m → (d i).length ≤ 131072 := fun i hi => by
      have := stp_lt (d := d) (m := m) (i := i) (by omega); omega
    refine FnOk.ofSb (b := true) (FnOk.ofG (t := 10) (fn := Try.f10) (c := blC) (S := [0, 1, 2, 3, 4].zip (blA k1 k2 t d m o)) gB_ok Try.func10 rfl (by decide) (by show 5 ≤ _; decide) rfl rfl sbool_all fun W OW _ a w h => ?_) rfl
    have h : StG gB W OW 111 ([0, 1, 2, 3, 4].zip (blA k1 k2 t d m o)) [] a w := h
    refine StG.cut (k := 5) h gB_ok (by decide) (bl_pre d m o k1 k2 t) (allC_append.2 ⟨hc, by simp only [allC_cons, allC_nil, and_true]; exact decide_eq_false hX⟩) (by decide) (by decide) (by simp) fun a w h => ?_
    rw [bl_5]
    refine wp_seq (wp_seq (StG.run h gB_ok (by decide) (bl_r6 d m o k1 k2 t) (by simp [AllC]) (by decide) (by decide) (by simp) fun a w h => ?_))
    show (Code.block 0 (.loop blL)).wp _ _ a w
    refine wp_block ?_
    have h := StG.pre h (fun t => zip_norm blKeep _ t (by decide))
    have h := StG.adopt h (.lists .u8 []) 13 rfl rfl (by simp [normL]) (by simp [normL])
    have h : StG gB W OW 111 (blS d m o 0) (blB k1 k2 t (blLs d o 0)) a w := h
    refine StG.iter (S := fun i => blS d m o i) (B := fun i => blB k1 k2 t (blLs d o i)) (N := m) (fun i hi a w h Q' hq => bl_round d m o k1 k2 t hm hl Fo i hi a w h Q' hq) (fun a w h => ?_) 0 (Nat.zero_le _) a w h
    refine StG.run h gB_ok (by decide) (bl_end d m o m k1 k2 t _) (by simp only [allC_cons, allC_nil, and_true]; exact ⟨Fm, decide_eq_false (by omega)⟩) (by decide) (by decide) (by simp) fun a w h => ?_
    simp only [Ex.up, Exit.then, Exit.inBlock, if_true]
    have h2 : StG gB W OW 111 (blKeep.zip [.ro 1 m (rowL d), .roi .u8 o, .ptr 0 0, .ptr 1 0, .ptr 2 0, .ptr 3 0, .ptr 4 0, .ro 1 (blLs d o m).length (rowL (dT d o m)), .int .i64 (m : Int)]) (blB5 k1 k2 t) a w := by
      refine StG.freeze (B := blB5 k1 k2 t) (bd := .lists .u8 (blLs d o m)) h (by kernel_rfl) (by decide) rfl fun j c c' h1 h2 => ?_
      match j, h1, h2 with
      | 0, h1, h2 => simp at h1 h2; subst h1; subst h2; exact .inl rfl
      | 1, h1, h2 => simp at h1 h2; subst h1; subst h2; exact .inl rfl
      | 2, h1, h2 => simp at h1 h2; subst h1; subst h2; exact .inl rfl
      | 3, h1, h2 => simp at h1 h2; subst h1; subst h2; exact .inl rfl
      | 4, h1, h2 => simp at h1 h2; subst h1; subst h2; exact .inl rfl
      | 5, h1, h2 => simp at h1 h2; subst h1; subst h2; exact .inl rfl
      | 6, h1, h2 => simp at h1 h2; subst h1; subst h2; exact .inl rfl
      | 7, h1, h2 =>
        simp at h1 h2; subst h1; subst h2
        exact .inr fun w0 O ρ H w Φ O1 x hb hO hm v ρ1 hd => frozen_lists x hb hm hO hd
      | 8, h1, h2 => simp at h1 h2; subst h1; subst h2; exact .inl rfl
      | j + 9, h1, _ => simp at h1
    rw [blLs_len] at h2
    have h3 : StG gB W OW 111 ([2, 5, 6, 9, 11, 12, 13].zip [.ro 1 m (rowL d), .ptr 0 0, .ptr 1 0, .ptr 2 0, .ptr 3 0, .ptr 4 0, .ro 1 m (rowL (dT d o m))]) (blB5 k1 k2 t) a w := by
      obtain ⟨w0, O, ρ, Φ, hG, hgr, r, hr⟩ := h2
      exact ⟨w0, O, ρ, Φ, hG, hgr, r.sub (sub_mkT (by simp; exact ⟨rfl, rfl, rfl, rfl, rfl, rfl, rfl⟩)), hr⟩
    have hd2 : ∀ i, i < m → dT d o m i = bwE o (d i).length := fun i hi => blLs_get d o hi
    have hlen2 : ∀ i, i < m → (dT d o m i).length = (d i).length := fun i hi => by rw [hd2 i hi]; exact bwE_len o _
    have eT : ofT (dT d o m) m = ofT d m := ofT_lens hlen2
    obtain ⟨t1, t2⟩ := ofT_len2 hm hl
    have hO1 : ∀ w : List (List Int), w.length ≤ 100000000 → AllC (olC (rowL d) m w) := fun w hw => by
      simp only [olC, allC_cons, allC_nil, and_true]; exact ⟨rfl, by omega, hl, hff, hw⟩
    have hO2 : ∀ w : List (List Int), w.length ≤ 100000000 → AllC (olC (rowL (dT d o m)) m w) := fun w hw => by
      simp only [olC, allC_cons, allC_nil, and_true]
      refine ⟨rfl, by omega, fun i hi => ?_, fun i hi => ?_, hw⟩
      · show (dT d o m i).length ≤ 131072
        rw [hlen2 i hi]; exact hl i hi
      · show ∀ n ∈ dT d o m i, Fits .u8 n
        rw [hd2 i hi]; exact bwE_fit ho _
    have bTe : bT (dT d o m) m = bT d m := by show [] ++ ofT (dT d o m) m = [] ++ ofT d m; rw [eT]
    have bTl : (bT d m).length = (ofT d m).length := by show ([] ++ ofT d m).length = _; rw [List.nil_append]
    have tl : ∀ (k : Nat → Int) (e : Nat → List Int), ofT e m = ofT d m → (bTL k t e m).length = 2 * (ofT d m).length + 1 := fun k e he => by
      show ((([] ++ ofT e m) ++ ofT e m) ++ [[1, bI (bK k t e m)]]).length = _
      rw [he]; simp only [List.nil_append, List.length_append, List.length_singleton]; omega
    have l1 := tl k1 d rfl
    have l2 := tl k2 (dT d o m) eT
    have rp := runsL_pos (l := bTL k1 t d m) (fun e => by rw [e] at l1; simp at l1)
    have rl := (runsL_ok (bTL k1 t d m)).len
    refine StG.run h3 gB_ok (by decide) (bl_rest d (dT d o m) m k1 k2 t) ?_ (by decide) (by decide) (by simp) fun a w h => ⟨rfl, _, _, h, rfl⟩
    refine allC_append.2 ⟨hO1 _ (by simp), allC_append.2 ⟨hO2 _ (by simp), allC_append.2 ⟨?_, allC_append.2 ⟨allC_cons.2 ⟨?_, hO1 _ (by omega)⟩, allC_append.2 ⟨allC_cons.2 ⟨?_, hO2 _ (by rw [bTe]; omega)⟩, allC_append.2 ⟨?_, allC_append.2 ⟨?_, ?_⟩⟩⟩⟩⟩⟩⟩
    · simp only [allC_cons, allC_nil, and_true]
      rw [bTe]
      exact ⟨by omega, by omega, by rw [decide_eq_true rfl]; rfl⟩
    · rw [List.length_append]; omega
    · rw [bTe, eT, List.length_append]; omega
    · simp only [allC_cons, allC_nil, and_true]; omega
    · simp only [b24, allC_cons, allC_nil, and_true]
      exact ⟨fits_of (by omega) (by omega), by rw [decide_eq_true (by omega)]; rfl, fits_of (by omega) (by omega), fits_of (by omega) (by omega), decide_eq_false (by omega), decide_eq_false (by omega)⟩
    · simp only [allC_cons, allC_nil, and_true]
      refine ⟨?_, by omega, by omega⟩
      have ea : bTL k1 t d m = (ofT d m ++ ofT d m) ++ [[1, bI (bK k1 t d m)]] := by
        show (([] ++ ofT d m) ++ ofT d m) ++ _ = _
        rw [List.nil_append]
      have eb : bTL k2 t (dT d o m) m = (ofT d m ++ ofT d m) ++ [[1, bI (bK k2 t (dT d o m) m)]] := by
        show (([] ++ ofT (dT d o m) m) ++ ofT (dT d o m) m) ++ _ = _
        rw [List.nil_append, eT]
      rw [ea, eb]
      cases bK k1 t d m <;> cases bK k2 t (dT d o m) m <;> simp [bI]
end Go.Proofs.Ytejcjdhplpjpjaa
