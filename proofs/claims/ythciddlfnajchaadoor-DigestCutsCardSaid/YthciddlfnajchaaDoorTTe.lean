/- Accounts of this seat's functions: lemmas, no statement of their own. No conditions. -/
import Derived.Test.YthciddlfnajchaaDoorTTb
namespace Go.Proofs.Tryd
open Go Go.Vx
theorem cu_pre (p' : Addr) (x cs : List Int) : runC (gz p') 900 139 [.br false] (takeSeq 7 cuC) [(0, .roi .u8 x), (1, .roi .i64 cs)] [] preKeep [1, 2] =
    some (.normal, [.roi .u8 x, .roi .i64 cs, .ptr 0 0, .ptr 1 0, .raw (.slice none 0 0), .lit .i64 0], [Body.cells (b32 (atL (D32 x))), dgV nilR (nwA 32 [])].map some, [Fits .i64 (x.length : Int), decide ((131072 : Int) < (x.length : Int)) = false, x.length ≤ 1000000000, (1 : Int) ≤ 32, (32 : Int) ≤ 32, ([] : List Int).length ≤ 32]) := r3_parts4 (by kernel_rfl) (by kernel_rfl) (by kernel_rfl) (by kernel_rfl)

/-! ### DigestCuts: behind the loop -/
abbrev cuR (x : List Int) (p : Nat) : List Int := (x.drop (p : Int).toNat).take ((x.length : Int).toNat - (p : Int).toNat)
abbrev cuLR (x : List Int) (p : Nat) : Prop := 0 ≤ (p : Int) ∧ (p : Int) ≤ (x.length : Int) ∧ (x.length : Int) ≤ (x.length : Int)
theorem cu_c (p' : Addr) (x cs : List Int) (t a : Nat → Int) (p i : Nat) (P : List (List Int)) : runC (gz p') 900 139 [] (takeSeq 2 (dropSeq 8 cuC)) (cuS x cs p i) (cuB t a P) [0, 5, 6, 8] [0, 1, 4] =
    some (.normal, [.roi .u8 x, .ptr 0 0, .ptr 1 0, .own 2], (cuB t (wrA (n75 a) (cuR x p)) (P ++ [cuR x p])).map some, [(P ++ [cuR x p]).length * 24 ≤ 2 ^ 47, (0 : Nat) = 0, cuLR x p, 0 ≤ n75 a 74 ∧ n75 a 74 ≤ 64, (cuR x p).length ≤ 140737488355328, cuLR x p]) := r3_parts4 (by kernel_rfl) (by kernel_rfl) (by kernel_rfl) (by kernel_rfl)

noncomputable abbrev rowB (q : Nat) (d : Nat → List Int) : Nat → SV := fun i => .rob q .u8 (d i)
noncomputable abbrev cuT (x : List Int) (n : Nat) (d : Nat → List Int) : List (Nat × SV) := [0, 5, 6, 8].zip [.roi .u8 x, .ptr 0 0, .ptr 1 0, .ro 1 n (rowB 0 d)]
noncomputable abbrev cuB2 (t a : Nat → Int) : List Body := [.cells (b32 t), dgV nilR a]
/-! ### byte by byte -/
abbrev byKeep : List Nat := [0, 5, 12, 14]
noncomputable abbrev byBody : Code := bodyAt Tryd.prog 5 26
noncomputable abbrev byO (x : List Int) (i : Int) : List SV := [.roi .u8 x, .ptr 0 0, .ptr 1 0, .int .i64 i]
noncomputable abbrev byS (x : List Int) (i : Nat) : List (Nat × SV) := byKeep.zip (byO x (i : Int))
abbrev byP (x : List Int) (i : Nat) : List Int := (x.drop (i : Int).toNat).take (((i : Int) + 1).toNat - (i : Int).toNat)
noncomputable def byA (x : List Int) (a : Nat → Int) : Nat → (Nat → Int)
  | 0 => a
  | i + 1 => wrA (n75 (byA x a i)) (byP x i)
theorem by_go (p' : Addr) (x : List Int) (t a : Nat → Int) (i : Nat) : runC (gz p') 900 139 [.br true] byBody (byS x i) (cuB2 t a) byKeep [0, 1] =
    some (.normal, byO x ((i : Int) + 1), (cuB2 t (wrA (n75 a) (byP x i))).map some, [Fits .i64 (x.length : Int), decide ((i : Int) < (x.length : Int)) = true, 0 ≤ n75 a 74 ∧ n75 a 74 ≤ 64, (byP x i).length ≤ 140737488355328, 0 ≤ (i : Int) ∧ (i : Int) ≤ (i : Int) + 1 ∧ (i : Int) + 1 ≤ (x.length : Int), Fits .i64 ((i : Int) + 1), Fits .i64 ((i : Int) + 1)]) := r3_parts4 (by kernel_rfl) (by kernel_rfl) (by kernel_rfl) (by kernel_rfl)

theorem by_end (p' : Addr) (x : List Int) (t a : Nat → Int) (i : Nat) : runC (gz p') 900 139 [.br false] byBody (byS x i) (cuB2 t a) byKeep [0, 1] =
    some (.exit 2, byO x (i : Int), (cuB2 t a).map some, [Fits .i64 (x.length : Int), decide ((i : Int) < (x.length : Int)) = false]) := r3_parts4 (by kernel_rfl) (by kernel_rfl) (by kernel_rfl) (by kernel_rfl)

theorem take_more (x : List Int) {p c q : Nat} (h : q = p + c) : x.take q = x.take p ++ (x.drop p).take c := by
  subst h; exact List.take_add
theorem byP_eq (x : List Int) (i : Nat) : byP x i = (x.drop i).take 1 := by
  show (x.drop ((i : Int)).toNat).take (((i : Int) + 1).toNat - (i : Int).toNat) = _
  rw [show ((i : Int)).toNat = i by omega, show ((i : Int) + 1).toNat - i = 1 by omega]
theorem HS_by {x : List Int} {a : Nat → Int} (h0 : HS 32 [] [] a) (hl : x.length ≤ 1000000) : ∀ i, HS 32 [] (x.take i) (byA x a i)
  | 0 => by simpa [byA] using h0
  | i + 1 => by
    have ih := HS_by h0 hl i
    have h1 : (x.take i).length ≤ x.length := by rw [List.length_take]; omega
    have h2 : ((x.drop i).take 1).length ≤ 1 := by rw [List.length_take]; omega
    have := HS_write (d := byP x i) (HT_75 ih) (Nat.zero_le _) (by rw [byP_eq]; omega)
    rw [byP_eq, ← take_more x (p := i) (c := 1) rfl] at this
    show HS 32 [] (x.take (i + 1)) (wrA (n75 (byA x a i)) (byP x i))
    rw [byP_eq]; exact this
noncomputable def byG : LoopF := fun vals B => match vals, B with
  | [.roi K x, .ptr 0 0, .ptr 1 0, .int .i64 0], [.cells ts, .cells ms] => match sameK K .u8, numsAs (List.replicate 32 .u8) ts, dgAs ms, headK (ms.take 1) with
    | true, some lt, some la, .nil => some ([(5, .ptr 0 0), (12, .ptr 1 0)], cuB2 (atL lt) (byA x (atL la) x.length), [x.length ≤ 300, HS 32 [] [] (atL la)])
    | _, _, _, _ => none
  | _, _ => none
theorem by_loop (p' : Addr) : LoopGood (gz p') 139 (.loop byBody) byKeep 2 (.exit 2) (mkLoopN byG) := by
  refine LoopGood.mkN (by decide) fun vals B S' B' C hG hC hlen w0 O hgl => ?_
  clear hlen
  unfold byG at hG
  split at hG
  · rename_i K x ts ms
    split at hG
    · rename_i lt la hK ht ha hr
      obtain rfl := kidx_inj hK
      have hr := head_nil hr
      simp only [Option.some.injEq, Prod.mk.injEq] at hG
      obtain ⟨rfl, rfl, rfl⟩ := hG
      simp only [allC_cons, allC_nil, and_true] at hC
      obtain ⟨hx, h0⟩ := hC
      refine SimC.preI (B1 := cuB2 (atL lt) (atL la)) ?_ ⟨cells_nums ht, cells_dg ha hr rfl, trivial⟩
      show SimC _ _ _ _ _ (byS x 0) (cuB2 (atL lt) (byA x (atL la) 0)) _ _ _ _
      refine SimC.iter (g := gz p') (e := .exit 2) (S := fun i => byS x i) (B := fun i => cuB2 (atL lt) (byA x (atL la) i)) (N := x.length) (fun i hi => ?_) ?_ (by simp) 0 (by omega)
      · have o := HT_ok (HT_75 (HS_by (x := x) h0 (by omega) i)) (by decide) (by decide)
        have e := byP_eq x i
        have hl : (byP x i).length ≤ 1 := by rw [e, List.length_take]; omega
        have F1 : Fits .i64 ((i : Int) + 1) := fits_of (by omega) (by omega)
        refine SimC.run (B' := cuB2 (atL lt) (byA x (atL la) (i + 1))) (gz_ok p') (by decide) (by_go p' x _ _ i) ?_ (by decide) i2 (by decide) (by simp) hgl
        simp only [allC_cons, allC_nil, and_true]
        exact ⟨fits_of (by omega) (by omega), decide_eq_true (by omega), o.1, by omega, ⟨by omega, by omega, by omega⟩, F1, F1⟩
      · exact SimC.weaken (SimC.run (B' := cuB2 (atL lt) (byA x (atL la) x.length)) (gz_ok p') (by decide) (by_end p' x _ _ x.length) (by simp only [allC_cons, allC_nil, and_true]; exact ⟨fits_of (by omega) (by omega), decide_eq_false (by omega)⟩) (by decide) i2 (by decide) (by simp) hgl) (sub_mkT (by simp; exact ⟨rfl, rfl⟩))
    · simp at hG
  · simp at hG
noncomputable abbrev byE (x : List Int) : Nat → Int := byA x (n75 (nwA 32 [])) x.length
theorem cu_d1 (p' : Addr) (x : List Int) (t a : Nat → Int) (n : Nat) (d : Nat → List Int) : runC (gz p') 900 139 [.br false, .br false, .br true] (dropSeq 2 (dropSeq 8 cuC)) (cuT x n d) (cuB2 t a) [4] [0, 1] = some (.ret, [.sbool true], (cuB2 t (n75 a)).map some, [0 ≤ n75 a 74 ∧ n75 a 74 ≤ 64, 0 ≤ n75 a 0 ∧ n75 a 0 ≤ 32, 0 + ((n75 a) 0).toNat ≤ (dgL (n75 a)).length, 0 + 32 ≤ (listF 32 t 0).length, ((n75 a) 0).toNat ≤ 140737488355328, subI (dgL (n75 a)) 0 ((n75 a) 0).toNat = subI (listF 32 t 0) 0 32, (!decide (listF 32 (atL (D32 (xZ d n))) 0 = listF 32 t 0)) = false, rowL d = rowL (lOf (rowL d)), Fits .i64 (n : Int), LB d n, (xZ d n).length ≤ 1000000000, (!true) = false, Fits .i64 (x.length : Int), decide ((300 : Int) < (x.length : Int)) = true]) := r3_parts4 (by kernel_rfl) (by kernel_rfl) (by kernel_rfl) (by kernel_rfl)
theorem cu_d2 (p' : Addr) (x : List Int) (t a : Nat → Int) (n : Nat) (d : Nat → List Int) : runC (gz p') 900 139 [.br false, .br false, .br false, .loop 26 byKeep 2 (.exit 2) (mkLoopN byG), .br true] (dropSeq 2 (dropSeq 8 cuC)) (cuT x n d) (cuB2 t a) [4] [0, 1] = some (.ret, [.sbool true], (cuB2 (atL (listF 32 t 0)) (n75 a)).map some, [0 ≤ n75 a 74 ∧ n75 a 74 ≤ 64, 0 ≤ n75 a 0 ∧ n75 a 0 ≤ 32, 0 + ((n75 a) 0).toNat ≤ (dgL (n75 a)).length, 0 + 32 ≤ (listF 32 t 0).length, ((n75 a) 0).toNat ≤ 140737488355328, subI (dgL (n75 a)) 0 ((n75 a) 0).toNat = subI (listF 32 t 0) 0 32, (!decide (listF 32 (atL (D32 (xZ d n))) 0 = listF 32 t 0)) = false, rowL d = rowL (lOf (rowL d)), Fits .i64 (n : Int), LB d n, (xZ d n).length ≤ 1000000000, (!true) = false, Fits .i64 (x.length : Int), decide ((300 : Int) < (x.length : Int)) = false, (1 : Int) ≤ 32, (32 : Int) ≤ 32, ([] : List Int).length ≤ 32, LoopGood (gz p') 139 (.loop byBody) byKeep 2 (.exit 2) (mkLoopN byG), x.length ≤ 300, HS 32 [] [] (n75 (nwA 32 [])), true = true, 0 + ((n75 (byE x)) 0).toNat ≤ (dgL (n75 (byE x))).length, 0 + 32 ≤ (listF 32 (atL (listF 32 t 0)) 0).length, ((n75 (byE x)) 0).toNat ≤ 140737488355328, subI (dgL (n75 (byE x))) 0 ((n75 (byE x)) 0).toNat = subI (listF 32 (atL (listF 32 t 0)) 0) 0 32, 0 ≤ (n75 (byE x)) 74 ∧ (n75 (byE x)) 74 ≤ 64, 0 ≤ (n75 (byE x)) 0 ∧ (n75 (byE x)) 0 ≤ 32]) := r3_parts4 (by kernel_rfl) (by kernel_rfl) (by kernel_rfl) (by kernel_rfl)
end Go.Proofs.Tryd

namespace Go.Proofs.Tryd
open Go Go.Vx
/-! ### DigestCuts: what holds between the rounds -/
noncomputable def cuN (x cs : List Int) (a : Nat → Int) : Nat → Nat × (Nat → Int) × List (List Int)
  | 0 => (0, a, [])
  | i + 1 => if 0 ≤ cuV cs i ∧ cuV cs i ≤ (x.length : Int) - ((cuN x cs a i).1 : Int) then ((cuN x cs a i).1 + (cuV cs i).toNat, wrA (n75 (cuN x cs a i).2.1) (cuP x (cuN x cs a i).1 (cuV cs i)), (cuN x cs a i).2.2 ++ [cuP x (cuN x cs a i).1 (cuV cs i)]) else cuN x cs a i
structure CI (x : List Int) (i : Nat) (s : Nat × (Nat → Int) × List (List Int)) : Prop where
  le : s.1 ≤ x.length
  fl : s.2.2.flatten = x.take s.1
  ms : HS 32 [] (x.take s.1) s.2.1
  cnt : s.2.2.length ≤ i
  mem : ∀ r ∈ s.2.2, r.length ≤ x.length ∧ ∀ n ∈ r, n ∈ x
theorem cuP_eq (x : List Int) {p : Nat} {c : Int} (h : 0 ≤ c) : cuP x p c = (x.drop p).take c.toNat := by
  show (x.drop ((p : Int)).toNat).take (((p : Int) + c).toNat - (p : Int).toNat) = _
  rw [show ((p : Int)).toNat = p by omega, show ((p : Int) + c).toNat - p = c.toNat by omega]
theorem cuR_eq (x : List Int) (p : Nat) : cuR x p = x.drop p := by
  show (x.drop ((p : Int)).toNat).take ((x.length : Int).toNat - (p : Int).toNat) = _
  rw [show ((p : Int)).toNat = p by omega, show ((x.length : Int)).toNat = x.length by omega]
  exact List.take_of_length_le (by rw [List.length_drop]; exact Nat.le_refl _)
theorem sub_mem {x : List Int} (p c : Nat) : ((x.drop p).take c).length ≤ x.length ∧ ∀ n ∈ (x.drop p).take c, n ∈ x :=
  ⟨by rw [List.length_take, List.length_drop]; omega, fun n hn => List.mem_of_mem_drop (List.mem_of_mem_take hn)⟩
theorem CI_N {x cs : List Int} {a : Nat → Int} (h0 : HS 32 [] [] a) (hx : x.length ≤ 1000000) : ∀ i, CI x i (cuN x cs a i)
  | 0 => ⟨Nat.zero_le _, by simp [cuN], by simpa [cuN] using h0, by simp [cuN], by simp [cuN]⟩
  | i + 1 => by
    obtain ⟨h1, h2, h3, h4, h5⟩ := CI_N (cs := cs) h0 hx i
    simp only [cuN]
    split
    · rename_i c
      have e := cuP_eq x (p := (cuN x cs a i).1) c.1
      have m := sub_mem (x := x) (cuN x cs a i).1 (cuV cs i).toNat
      have tm := take_more x (p := (cuN x cs a i).1) (c := (cuV cs i).toNat) rfl
      refine ⟨by show (cuN x cs a i).1 + (cuV cs i).toNat ≤ x.length; omega, ?_, ?_, ?_, ?_⟩
      · show ((cuN x cs a i).2.2 ++ [cuP x (cuN x cs a i).1 (cuV cs i)]).flatten = x.take ((cuN x cs a i).1 + (cuV cs i).toNat)
        rw [List.flatten_append, h2, e, tm]; simp
      · show HS 32 [] (x.take ((cuN x cs a i).1 + (cuV cs i).toNat)) (wrA (n75 (cuN x cs a i).2.1) (cuP x (cuN x cs a i).1 (cuV cs i)))
        rw [tm, e]
        exact HS_write (HT_75 h3) (Nat.zero_le _) (by rw [List.length_take]; omega)
      · show ((cuN x cs a i).2.2 ++ [cuP x (cuN x cs a i).1 (cuV cs i)]).length ≤ i + 1
        rw [List.length_append, List.length_singleton]; omega
      · intro r hr
        rcases List.mem_append.1 hr with hr | hr
        · exact h5 r hr
        · simp only [List.mem_singleton] at hr; subst hr; rw [e]; exact m
    · exact ⟨h1, h2, h3, by omega, h5⟩

end Go.Proofs.Tryd

namespace Go.Proofs.Tryd
open Go Go.Vx
/-! ### DigestCuts: the account -/
theorem xZ_flat (P : List (List Int)) : ∀ i, xZ (fun j => P.getD j []) i = (P.take i).flatten
  | 0 => by simp [xZ]
  | i + 1 => by
    simp only [xZ]
    rw [xZ_flat P i, List.take_add_one, List.flatten_append, List.getD_eq_getElem?_getD]
    congr 1
    cases h : P[i]? with
    | none => simp
    | some r => simp
theorem cu_round (p' : Addr) {W : World} {OW : Go.Vx.Own} (x cs : List Int) (t a : Nat → Int) (h0 : HS 32 [] [] a) (hl : x.length ≤ 131072) (Fc : Fits .i64 (cs.length : Int)) (i : Nat) (hi : i < cs.length) (h4 : i < 400) (b : Act) (w : World)
    (h : StG (gz p') W OW 139 (cuS x cs (cuN x cs a i).1 i) (cuB t (cuN x cs a i).2.1 (cuN x cs a i).2.2) b w) (Q : Exit → Act → World → Prop)
    (hq : ∀ b' w', StG (gz p') W OW 139 (cuS x cs (cuN x cs a (i + 1)).1 (i + 1)) (cuB t (cuN x cs a (i + 1)).2.1 (cuN x cs a (i + 1)).2.2) b' w' → Q .normal b' w') : cuBody.wp (gz p').P Q b w := by
  obtain ⟨c1, c2, c3, c4, c5⟩ := CI_N (cs := cs) (x := x) h0 (by omega) i
  have F1 : Fits .i64 ((i : Int) + 1) := fits_of (by omega) (by omega)
  have F2 : Fits .i64 (x.length : Int) := fits_of (by omega) (by omega)
  have o := HT_ok (HT_75 c3) (by decide) (by decide)
  have z1 : decide ((i : Int) < (cs.length : Int)) = true := decide_eq_true (by omega)
  have z3 : decide ((i : Int) < 400) = true := decide_eq_true (by omega)
  have hI : cuI cs i := ⟨by omega, by omega⟩
  by_cases ok : 0 ≤ cuV cs i ∧ cuV cs i ≤ (x.length : Int) - ((cuN x cs a i).1 : Int)
  · have e : cuN x cs a (i + 1) = ((cuN x cs a i).1 + (cuV cs i).toNat, wrA (n75 (cuN x cs a i).2.1) (cuP x (cuN x cs a i).1 (cuV cs i)), (cuN x cs a i).2.2 ++ [cuP x (cuN x cs a i).1 (cuV cs i)]) := by simp only [cuN]; rw [if_pos ok]
    have c3' := (CI_N (cs := cs) (x := x) h0 (by omega) (i + 1)).ms
    rw [e] at hq c3'
    have o2 := HT_ok (HT_75 c3') (by decide) (by decide)
    have ep := cuP_eq x (p := (cuN x cs a i).1) ok.1
    have m := (sub_mem (x := x) (cuN x cs a i).1 (cuV cs i).toNat).1
    rw [← ep] at m
    have hL : cuL x (cuN x cs a i).1 (cuV cs i) := ⟨by omega, by omega, by omega⟩
    have F3 : Fits .i64 (((cuN x cs a i).1 : Int) + cuV cs i) := fits_of (by omega) (by omega)
    refine StG.run h (gz_ok p') (by decide) (cu_w p' x cs t _ _ i _) ?_ (by decide) (by decide) (by simp) fun b' w' h' => hq b' w' ?_
    · simp only [allC_cons, allC_nil, and_true]
      exact ⟨z1, Fc, z3, fits_of (by omega) (by omega), F2, hI, decide_eq_false (by omega), hI, decide_eq_false (by omega), by rw [List.length_append, List.length_singleton]; omega, trivial, hL, F3, hI, o.1, by omega, hL, F3, hI, o2.1, o2.2, F3, hI, F1⟩
    · have e2 : (((cuN x cs a i).1 + (cuV cs i).toNat : Nat) : Int) = ((cuN x cs a i).1 : Int) + cuV cs i := by omega
      show StG (gz p') W OW 139 (cuKeep.zip (cuO x cs (((cuN x cs a i).1 + (cuV cs i).toNat : Nat) : Int) (((i + 1 : Nat) : Int)))) _ b' w'
      rw [e2]; exact h'
  · have e : cuN x cs a (i + 1) = cuN x cs a i := by simp only [cuN]; rw [if_neg ok]
    rw [e] at hq
    by_cases hn : cuV cs i < 0
    · exact StG.run h (gz_ok p') (by decide) (cu_n p' x cs t _ _ i _) (by simp only [allC_cons, allC_nil, and_true]; exact ⟨z1, Fc, z3, decide_eq_true hn, hI, F1⟩) (by decide) (by decide) (by simp) fun b' w' h' => hq b' w' h'
    · exact StG.run h (gz_ok p') (by decide) (cu_b p' x cs t _ _ i _) (by simp only [allC_cons, allC_nil, and_true]; exact ⟨z1, Fc, z3, fits_of (by omega) (by omega), F2, hI, decide_eq_false hn, hI, decide_eq_true (by omega), F1⟩) (by decide) (by decide) (by simp) fun b' w' h' => hq b' w' h'
noncomputable abbrev cuR9 : Code := match dropSeq 7 cuC with | .seq (.seq a _) _ => a | _ => .skip
theorem cu_7 : dropSeq 7 cuC = .seq (.seq cuR9 (.block 0 (.loop cuBody))) (dropSeq 8 cuC) := by kernel_rfl
noncomputable abbrev cuP0 (t a : Nat → Int) : List Body := [.cells (b32 t), dgV nilR a]
theorem cu_r9 (p' : Addr) (x cs : List Int) (t a : Nat → Int) : runC (gz p') 900 139 [] cuR9 (preKeep.zip [.roi .u8 x, .roi .i64 cs, .ptr 0 0, .ptr 1 0, .raw (.slice none 0 0), .lit .i64 0]) (cuP0 t a) cuKeep [0, 1] =
    some (.normal, [.roi .u8 x, .roi .i64 cs, .ptr 0 0, .ptr 1 0, .raw (.slice none 0 0), .lit .i64 0, .lit .i64 0], (cuP0 t a).map some, []) :=
  r3_parts4 (by kernel_rfl) (by kernel_rfl) (by kernel_rfl) (by kernel_rfl)
abbrev cuQ (p' : Addr) (W : World) (OW : Go.Vx.Own) : Exit → Act → World → Prop := fun e a' w' => e = .ret ∧ ∃ S' B', StG (gz p') W OW 139 S' B' a' w' ∧ tget (mkT S') 4 = .sbool true
theorem cuB2_closed (t a : Nat → Int) : (cuB2 t a).map (mapB (idx (upto (cuB2 t a).length))) = cuB2 t a := by kernel_rfl
theorem D32_L (x : List Int) : listF 32 (atL (D32 x)) 0 = D32 x := by
  have := listF_atL (D32 x)
  rw [D32_len] at this; exact this
theorem sam32 {x : List Int} {a t : Nat → Int} (h : HS 32 [] x a) (hb : x.length ≤ 1000000000) (ht : listF 32 t 0 = D32 x) :
    0 + (n75 a 0).toNat ≤ (dgL (n75 a)).length ∧ 0 + 32 ≤ (listF 32 t 0).length ∧ (n75 a 0).toNat ≤ 140737488355328 ∧ subI (dgL (n75 a)) 0 (n75 a 0).toNat = subI (listF 32 t 0) 0 32 := by
  have M := HT_75 h
  have o := HT_ok M (by decide) (by decide)
  have e := HS_dg M (Nat.zero_le _) (by decide) (by decide) (by omega)
  have es : (n75 a 0).toNat = 32 := by rw [M.size]; rfl
  have hl := dgL_len o.2
  refine ⟨by omega, by rw [listF_length]; omega, by omega, ?_⟩
  rw [es, e, ht]
theorem cuts_end (p' : Addr) {W : World} {OW : Go.Vx.Own} (x cs : List Int) (t a : Nat → Int) (p i : Nat) (P : List (List Int)) (ht : listF 32 t 0 = D32 x) (hf : ∀ n ∈ x, Fits .u8 n) (hl : x.length ≤ 131072) (hi : i ≤ 400) (hc : CI x i (p, a, P)) (b : Act) (w : World)
    (h : StG (gz p') W OW 139 (cuS x cs p i) (cuB t a P) b w) : (dropSeq 8 cuC).wp (gz p').P (cuQ p' W OW) b w := by
  obtain ⟨c1, c2, c3, c4, c5⟩ := hc
  simp only at c1 c2 c3 c4 c5
  have hby := by_loop p'
  have er := cuR_eq x p
  have hR : (cuR x p).length ≤ x.length := by rw [er, List.length_drop]; omega
  have hLR : cuLR x p := ⟨by omega, by omega, by omega⟩
  have M : HS 32 [] x (wrA (n75 a) (cuR x p)) := by
    have := HS_write (d := cuR x p) (HT_75 c3) (Nat.zero_le _) (by rw [List.length_take]; omega)
    rw [er, List.take_append_drop] at this
    rw [er]; exact this
  refine StG.cut (k := 2) h (gz_ok p') (by decide) (cu_c p' x cs t a p i P) ?_ (by decide) (by decide) (by simp) fun b w h => ?_
  · simp only [allC_cons, allC_nil, and_true]
    exact ⟨by rw [List.length_append, List.length_singleton]; omega, trivial, hLR, (HT_ok (HT_75 c3) (by decide) (by decide)).1, by omega, hLR⟩
  generalize hP : P ++ [cuR x p] = P' at h
  generalize hA : wrA (n75 a) (cuR x p) = a' at h M
  have hn : P'.length ≤ 401 := by rw [← hP, List.length_append, List.length_singleton]; omega
  have hfl : P'.flatten = x := by rw [← hP, List.flatten_append, c2, er]; simp
  have hm : ∀ r ∈ P', r.length ≤ x.length ∧ ∀ n ∈ r, n ∈ x := fun r hr => by
    rw [← hP] at hr
    rcases List.mem_append.1 hr with hr | hr
    · exact c5 r hr
    · simp only [List.mem_singleton] at hr; subst hr
      exact ⟨hR, fun n hn => by rw [er] at hn; exact List.mem_of_mem_drop hn⟩
  have hg : ∀ j, j < P'.length → P'.getD j [] ∈ P' := fun j hj => by
    rw [List.getD_eq_getElem?_getD, List.getElem?_eq_getElem hj]; exact List.getElem_mem hj
  have hz : xZ (fun j => P'.getD j []) P'.length = x := by rw [xZ_flat, List.take_length]; exact hfl
  have h2 : StG (gz p') W OW 139 (cuT x P'.length fun j => P'.getD j []) (cuB2 t a') b w := by
    refine StG.freeze (B := cuB2 t a') (bd := .lists 0 .u8 P') h (cuB2_closed t a') (by decide) rfl fun i c c' h1 h2 => ?_
    match i, h1, h2 with
    | 0, h1, h2 => simp at h1 h2; subst h1; subst h2; exact .inl rfl
    | 1, h1, h2 => simp at h1 h2; subst h1; subst h2; exact .inl rfl
    | 2, h1, h2 => simp at h1 h2; subst h1; subst h2; exact .inl rfl
    | 3, h1, h2 =>
      simp at h1 h2; subst h1; subst h2
      exact .inr fun w0 O ρ H w Φ O1 x hb hO hm _ v ρ1 hd => frozen_lists x hb hm hO hd
    | n + 4, h1, _ => simp at h1
  have o := HT_ok (HT_75 M) (by decide) (by decide)
  have hO : (!decide (listF 32 (atL (D32 (xZ (fun j => P'.getD j []) P'.length))) 0 = listF 32 t 0)) = false := by
    rw [hz, D32_L, ht, decide_eq_true rfl]; rfl
  have s := sam32 M (by omega) ht
  have hLB : LB (fun j => P'.getD j []) P'.length := fun j hj => by
    have := (hm _ (hg j hj)).1
    show (P'.getD j []).length ≤ _
    omega
  have hzl : (xZ (fun j => P'.getD j []) P'.length).length ≤ 1000000000 := by rw [hz]; omega
  have Fn : Fits .i64 (P'.length : Int) := fits_of (by omega) (by omega)
  have Fx : Fits .i64 (x.length : Int) := fits_of (by omega) (by omega)
  by_cases h3 : 300 < x.length
  · refine StG.run h2 (gz_ok p') (by decide) (cu_d1 p' x t a' P'.length _) ?_ (by decide) (by decide) (by simp) fun b' w' h' => ⟨rfl, _, _, h', rfl⟩
    simp only [allC_cons, allC_nil, and_true, Bool.not_true, true_and]
    exact ⟨o.1, o.2, s.1, s.2.1, s.2.2.1, s.2.2.2, hO, rfl, Fn, hLB, hzl, Fx, decide_eq_true (by omega)⟩
  · have Mb := HS_by (x := x) new32 (by omega) x.length
    rw [List.take_length] at Mb
    have tt : listF 32 (atL (listF 32 t 0)) 0 = listF 32 t 0 := listF_eq0.2 fun j hj => atLF hj
    have sb := sam32 (t := atL (listF 32 t 0)) Mb (by omega) (by rw [tt, ht])
    have ob := HT_ok (HT_75 Mb) (by decide) (by decide)
    refine StG.run h2 (gz_ok p') (by decide) (cu_d2 p' x t a' P'.length _) ?_ (by decide) (by decide) (by simp) fun b' w' h' => ⟨rfl, _, _, h', rfl⟩
    simp only [allC_cons, allC_nil, and_true, Bool.not_true, true_and]
    exact ⟨o.1, o.2, s.1, s.2.1, s.2.2.1, s.2.2.2, hO, rfl, Fn, hLB, hzl, Fx, decide_eq_false (by omega), by decide, by decide, Nat.zero_le _, hby, by omega, new32, sb.1, sb.2.1, sb.2.2.1, sb.2.2.2, ob.1, ob.2⟩
theorem cuts_G (p' : Addr) {W : World} {OW : Go.Vx.Own} (x cs : List Int) (hf : ∀ n ∈ x, Fits .u8 n) (hl : x.length ≤ 131072) (Fc : Fits .i64 (cs.length : Int)) (b : Act) (w : World)
    (h : StG (gz p') W OW 139 [(0, .roi .u8 x), (1, .roi .i64 cs)] [] b w) : cuC.wp (gz p').P (cuQ p' W OW) b w := by
  refine StG.cut (k := 7) h (gz_ok p') (by decide) (cu_pre p' x cs) ?_ (by decide) (by decide) (by simp) fun b w h => ?_
  · simp only [allC_cons, allC_nil, and_true]
    exact ⟨fits_of (by omega) (by omega), decide_eq_false (by omega), by omega, by decide, by decide, Nat.zero_le _⟩
  rw [cu_7]
  refine wp_seq (wp_seq ?_)
  refine StG.run h (gz_ok p') (by decide) (cu_r9 p' x cs _ _) (by simp [AllC]) (by decide) (by decide) (by simp) fun b w h => ?_
  show (Code.block 0 (.loop cuBody)).wp _ _ b w
  refine wp_block ?_
  have h := StG.pre h (fun t => zip_norm cuKeep _ t (by decide))
  have h := StG.preI (B1 := cuP0 (atL (listF 32 (atL (D32 x)) 0)) (n75 (nwA 32 []))) h
    ⟨cells_nums (ns := listF 32 (atL (D32 x)) 0) (by kernel_rfl), cells_dg (la := listF 75 (nwA 32 []) 0) (by kernel_rfl) rfl rfl, trivial⟩
  have h := StG.adopt h (.lists 0 .u8 []) 8 rfl rfl (by simp [normL]) (by simp [normL])
  rw [D32_L] at h
  have h : StG (gz p') W OW 139 (cuS x cs (cuN x cs (n75 (nwA 32 [])) 0).1 0) (cuB (atL (D32 x)) (cuN x cs (n75 (nwA 32 [])) 0).2.1 (cuN x cs (n75 (nwA 32 [])) 0).2.2) b w := h
  refine StG.iter (S := fun i => cuS x cs (cuN x cs (n75 (nwA 32 [])) i).1 i) (B := fun i => cuB (atL (D32 x)) (cuN x cs (n75 (nwA 32 [])) i).2.1 (cuN x cs (n75 (nwA 32 [])) i).2.2) (N := min cs.length 400)
    (fun i hi b w h Q' hq => cu_round p' x cs _ _ new32 hl Fc i (by omega) (by omega) b w h Q' hq) (fun b w h => ?_) 0 (Nat.zero_le _) b w h
  have hCI := CI_N (cs := cs) new32 (show x.length ≤ 1000000 by omega) (min cs.length 400)
  have fin := fun b w h => cuts_end (W := W) (OW := OW) p' x cs (atL (D32 x)) _ _ (min cs.length 400) _ (D32_L x) hf hl (by omega) hCI b w h
  by_cases h4 : cs.length ≤ 400
  · refine StG.run h (gz_ok p') (by decide) (cu_e p' x cs _ _ _ _ _) (by simp only [allC_cons, allC_nil, and_true]; exact ⟨decide_eq_false (by omega), Fc⟩) (by decide) (by decide) (by simp) fun b w h => ?_
    simp only [Ex.up, Exit.then, Exit.inBlock, if_true]
    exact fin b w h
  · refine StG.run h (gz_ok p') (by decide) (cu_m p' x cs _ _ _ _ _) (by simp only [allC_cons, allC_nil, and_true]; exact ⟨decide_eq_true (by omega), Fc, decide_eq_false (by omega)⟩) (by decide) (by decide) (by simp) fun b w h => ?_
    simp only [Ex.up, Exit.then, Exit.inBlock, if_true]
    exact fin b w h
theorem cuts_run2 (p' : Addr) (x cs : List Int) : runF (gz p') 900 [.br true] 5 [.roi .u8 x, .roi .i64 cs] [] [] =
    some (.bool true, [], [Fits .i64 (x.length : Int), decide ((131072 : Int) < (x.length : Int)) = true]) :=
  run_parts (by kernel_rfl) (by kernel_rfl) (by kernel_rfl)
theorem cuts_ok (p' : Addr) (x : List Int) (hf : ∀ n ∈ x, Fits .u8 n) (zx : x.length * Tryd.prog.bytesOf 5 ≤ 140737488351232) (cs : List Int) (_ : ∀ n ∈ cs, Fits .i64 n) (zc : cs.length * Tryd.prog.bytesOf 3 ≤ 140737488351232) : FnOk (gz p') 5 [.roi .u8 x, .roi .i64 cs] [] { val := .bool true } := by
  rw [show Tryd.prog.bytesOf 5 = 1 by kernel_rfl] at zx
  rw [show Tryd.prog.bytesOf 3 = 8 by kernel_rfl] at zc
  have Fx : Fits .i64 (x.length : Int) := fits_of (by omega) (by omega)
  have Fc : Fits .i64 (cs.length : Int) := fits_of (by omega) (by omega)
  by_cases hl : 131072 < x.length
  · exact FnOk.pure (gz_ok p') (cuts_run2 p' x cs) (by simp only [allC_cons, allC_nil, and_true]; exact ⟨Fx, decide_eq_true (by omega)⟩)
  · refine FnOk.ofSb (b := true) (FnOk.ofG (t := 4) (fn := Tryd.f5) (c := cuC) (S := [(0, .roi .u8 x), (1, .roi .i64 cs)]) (gz_ok p') Tryd.func5 rfl (by decide) (by show 2 ≤ _; decide) rfl rfl sbool_all fun W OW _ b w h => ?_) rfl
    exact cuts_G p' x cs hf (by omega) Fc b w h
end Go.Proofs.Tryd
