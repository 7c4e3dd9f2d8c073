/- Accounts of this seat's functions: lemmas, no statement of their own. No conditions. -/
import Derived.Test.YthciddlfnajchaaDoorTWb
namespace Go.Proofs.Tryd
open Go Go.Vx
/-! ### Of with a Recorder -/
noncomputable abbrev gv : Ctx := g3.add [(14, F14r), (15, F15)]
theorem gv_ok : CtxU gv := g3_ok.add mixed noGo (by
  intro x hx
  simp only [List.mem_cons, List.not_mem_nil, or_false] at hx
  rcases hx with rfl | rfl
  · exact Acc.of (g := g4) rfl rfl acc14r
  · exact Acc.of (g := g4) rfl rfl acc15)
def head0 (l : List SV) : Bool := match l with
  | [.ptr 0 0] => true
  | _ => false
theorem head0_eq {l : List SV} (h : head0 l = true) : l = [.ptr 0 0] := by
  unfold head0 at h; split at h <;> first | rfl | simp at h
abbrev eH (h : Int) (e : List Int) : Int := ewH (e.length : Int).toNat h (e.length : Int)
theorem held_next {a : Nat → Int} {e : List Int} (h : 0 ≤ n75 a 74 ∧ n75 a 74 ≤ 64) : eH (n75 a 74) e = n75 (wrA (n75 a) e) 74 := by
  rw [n75_at (a := wrA (n75 a) e) (j := 74) (by omega), wrA_ew h]
  show ewH (e.length : Int).toNat _ _ = _
  rw [Int.toNat_natCast]
noncomputable abbrev olO (d : Nat → List Int) (m : Nat) (i : Int) : List SV := [.ptr 0 0, .ro 1 m (rowL d), .ptr 1 0, .ptr 2 0, .int .i64 i]
noncomputable abbrev olB (w : List (List Int)) (z a : Nat → Int) : List Body := [.log w, .cells (b32 z), dgV (.ptr 0 0) a]
noncomputable abbrev olS (d : Nat → List Int) (m i : Nat) : List (Nat × SV) := ofKeep.zip (olO d m (i : Int))
abbrev ol1 (w : List (List Int)) (m i : Nat) : List (List Int) := w ++ [[1, bI (decide ((i : Int) < (m : Int)))]]
theorem ol_go (d : Nat → List Int) (m i : Nat) (w : List (List Int)) (z a : Nat → Int) : runC gv 400 35 [.br true] ofBody (olS d m i) (olB w z a) ofKeep [0, 1, 2] =
    some (.normal, olO d m ((i : Int) + 1), (olB ((ol1 w m i ++ [[2, (i : Int)]]) ++ evX (n75 a 74) ((d i).length : Int)) z (wrA (n75 a) (d i))).map some,
      [w.length < 1099511627776, Fits .i64 (m : Int), decide ((i : Int) < (m : Int)) = true, 0 ≤ n75 a 74 ∧ n75 a 74 ≤ 64, (d i).length ≤ 131072, (ol1 w m i ++ [[2, (i : Int)]]).length < 900000000, (0 : Int) ≤ (i : Int) ∧ (i : Int) < (m : Int), (ol1 w m i).length < 1099511627776, Fits .i64 ((i : Int) + 1)]) := r3_parts4 (by kernel_rfl) (by kernel_rfl) (by kernel_rfl) (by kernel_rfl)

theorem ol_end (d : Nat → List Int) (m i : Nat) (w : List (List Int)) (z a : Nat → Int) : runC gv 400 35 [.br false] ofBody (olS d m i) (olB w z a) ofKeep [0, 1, 2] =
    some (.exit 0, olO d m (i : Int), (olB (ol1 w m i) z a).map some, [w.length < 1099511627776, Fits .i64 (m : Int), decide ((i : Int) < (m : Int)) = false]) := r3_parts4 (by kernel_rfl) (by kernel_rfl) (by kernel_rfl) (by kernel_rfl)

/-- what is held behind so many pieces of these lengths, and what is logged -/
def ofH (d : Nat → List Int) : Nat → Int
  | 0 => 0
  | i + 1 => eH (ofH d i) (d i)
def olE (d : Nat → List Int) : Nat → List (List Int)
  | 0 => []
  | i + 1 => ((olE d i ++ [[1, 1]]) ++ [[2, (i : Int)]]) ++ evX (ofH d i) ((d i).length : Int)
abbrev evN0 : List (List Int) := [[1, 0], [1, 0], [1, 0], [1, 0]]
def ofT (d : Nat → List Int) (m : Nat) : List (List Int) := ((evN0 ++ olE d m) ++ [[1, 0]]) ++ [[2, ofH d m], [3, 31]]
theorem ofH_eq {d : Nat → List Int} {a : Nat → Int} (h0 : OkA a) (ha : n75 a 74 = 0) : ∀ i, ofH d i = n75 (aZ a d i) 74
  | 0 => ha.symm
  | i + 1 => by
    have ih := ofH_eq (d := d) h0 ha i
    show eH (ofH d i) (d i) = n75 (wrA (n75 (aZ a d i)) (d i)) 74
    rw [ih]
    exact held_next ((h0.aZ d i).n).1
theorem olE_len {d : Nat → List Int} {m : Nat} (hl : ∀ i, i < m → (d i).length ≤ 131072) : ∀ i, i ≤ m → (olE d i).length ≤ 655363 * i
  | 0, _ => by simp [olE]
  | i + 1, h => by
    have ih := olE_len hl i (by omega)
    have hi := hl i (by omega)
    have := evX_len (ofH d i) ((d i).length : Int)
    rw [Int.toNat_natCast] at this
    have e : (((olE d i ++ [[1, 1]]) ++ [[2, (i : Int)]]) ++ evX (ofH d i) ((d i).length : Int)).length = (olE d i).length + 2 + (evX (ofH d i) ((d i).length : Int)).length := by
      rw [List.length_append, List.length_append, List.length_append]; rfl
    simp only [olE]
    omega
noncomputable abbrev olC (f : Nat → SV) (m : Nat) (w : List (List Int)) : List Prop := [f = rowL (lOf f), m ≤ 1000, ∀ i, i < m → (lOf f i).length ≤ 131072, w.length ≤ 100000000]
noncomputable def olG : LoopF := fun vals B => match vals, B with
  | [.ptr 0 0, .ro 1 m f, .ptr 1 0, .ptr 2 0, .int .i64 0], [.log w, .cells zs, .cells ms] => match numsAs (List.replicate 32 .u8) zs, dgAs ms, head0 (ms.take 1) with
    | some lz, some la, true => some ([(4, .ptr 1 0), (5, .ptr 2 0)], olB (w ++ (olE (lOf f) m ++ [[1, 0]])) (atL lz) (aZ (atL la) (lOf f) m), olC f m w ++ [OkA (atL la), n75 (atL la) 74 = 0])
    | _, _, _ => none
  | _, _ => none
theorem ol_loop : LoopGood gv 35 (.loop ofBody) ofKeep 3 (.exit 0) (mkLoopN olG) := by
  refine LoopGood.mkN (by decide) fun vals B S' B' C hG hC hlen w0 O hgl => ?_
  clear hlen
  unfold olG at hG
  split at hG
  · rename_i m f w zs ms
    split at hG
    · rename_i lz la hz ha hr
      have hr := head0_eq hr
      simp only [Option.some.injEq, Prod.mk.injEq] at hG
      obtain ⟨rfl, rfl, rfl⟩ := hG
      simp only [olC, allC_append, allC_cons, allC_nil, and_true] at hC
      obtain ⟨⟨hf, hm, hl, hw⟩, h0, h74⟩ := hC
      generalize lOf f = d at *
      rw [hf]
      clear hf
      have Fm : Fits .i64 (m : Int) := fits_of (by omega) (by omega)
      refine SimC.preI (B1 := olB w (atL lz) (atL la)) ?_ ⟨⟨BImp.refl _, fun _ h => by simp at h⟩, cells_nums hz, cells_dg ha hr rfl, trivial⟩
      have e0 : w = w ++ olE d 0 := (List.append_nil w).symm
      rw [e0]
      show SimC _ _ _ _ _ (olS d m 0) (olB (w ++ olE d 0) (atL lz) (aZ (atL la) d 0)) _ _ _ _
      rw [show w ++ olE d 0 ++ (olE d m ++ [[1, 0]]) = w ++ (olE d m ++ [[1, 0]]) by rw [← e0]]
      refine SimC.iter (g := gv) (e := .exit 0) (S := fun i => olS d m i) (B := fun i => olB (w ++ olE d i) (atL lz) (aZ (atL la) d i)) (N := m) (fun i hi => ?_) ?_ (by simp) 0 (by omega)
      · have hli := hl i hi
        have hE := olE_len hl i (by omega)
        have M := ((h0.aZ d i).n).1
        have hh := ofH_eq (d := d) h0 h74 i
        have hr := ol_go d m i (w ++ olE d i) (atL lz) (aZ (atL la) d i)
        have e1 : bI (decide ((i : Int) < (m : Int))) = 1 := bI_t (by omega)
        have e2 : (ol1 (w ++ olE d i) m i ++ [[2, (i : Int)]]) ++ evX (n75 (aZ (atL la) d i) 74) ((d i).length : Int) = w ++ olE d (i + 1) := by
          rw [ol1, e1, ← hh]
          simp only [olE, List.append_assoc]
        rw [e2] at hr
        refine SimC.run (B' := olB (w ++ olE d (i + 1)) (atL lz) (aZ (atL la) d (i + 1))) gv_ok (by decide) hr ?_ (by decide) i3 (by decide) (by simp) hgl
        simp only [allC_cons, allC_nil, and_true, List.length_append, List.length_cons, List.length_nil]
        exact ⟨by omega, Fm, decide_eq_true (by omega), M, hli, by omega, ⟨by omega, by omega⟩, by omega, fits_of (by omega) (by omega)⟩
      · have hE := olE_len hl m (Nat.le_refl _)
        have hr := ol_end d m m (w ++ olE d m) (atL lz) (aZ (atL la) d m)
        have e1 : ol1 (w ++ olE d m) m m = w ++ (olE d m ++ [[1, 0]]) := by
          rw [ol1, bI_f (by omega), List.append_assoc]
        rw [e1] at hr
        exact SimC.weaken (SimC.run (B' := olB (w ++ (olE d m ++ [[1, 0]])) (atL lz) (aZ (atL la) d m)) gv_ok (by decide) hr (by simp only [allC_cons, allC_nil, and_true, List.length_append]; exact ⟨by omega, Fm, decide_eq_false (by omega)⟩) (by decide) i3 (by decide) (by simp) hgl) (sub_mkT (by simp; exact ⟨rfl, rfl⟩))
    · simp at hG
  · simp at hG
noncomputable abbrev olN (d : Nat → List Int) (m : Nat) : Nat → Int := n75 (aZ (nwA 32 []) d m)
abbrev w4 (w : List (List Int)) : List (List Int) := (((w ++ [[1, 0]]) ++ [[1, 0]]) ++ [[1, 0]]) ++ [[1, 0]]
theorem ol_run (d : Nat → List Int) (m : Nat) (w : List (List Int)) : runF gv 900 [.br false, .br false, .br false, .br false, .loop 3 ofKeep 3 (.exit 0) (mkLoopN olG)] 17 [.ptr 0 0, .ro 1 m (rowL d)] [.log w] [] =
    some (.agg (b32 (cp32 (dgL (olN d m)) (olN d m 0).toNat)), [some (.log (suW (w4 w ++ (olE d m ++ [[1, 0]])) (olN d m)))], [w.length < 1099511627776, false = false, (w ++ [[1, 0]]).length < 1099511627776, false = false, ((w ++ [[1, 0]]) ++ [[1, 0]]).length < 1099511627776, false = false, (((w ++ [[1, 0]]) ++ [[1, 0]]) ++ [[1, 0]]).length < 1099511627776, false = false, LoopGood gv 35 (.loop ofBody) ofKeep 3 (.exit 0) (mkLoopN olG),
      rowL d = rowL (lOf (rowL d)), m ≤ 1000, ∀ i, i < m → (lOf (rowL d) i).length ≤ 131072, (w4 w).length ≤ 100000000, OkA (nwA 32 []), n75 (nwA 32 []) 74 = 0, Fits .i64 ((min ((((dgL (olN d m)).drop (0 + 0)).take (olN d m 0).toNat)).length (32 - 0) : Nat) : Int), 0 + ((((dgL (olN d m)).drop (0 + 0)).take (olN d m 0).toNat).take (32 - 0)).length ≤ 32, 0 + 0 + (olN d m 0).toNat ≤ (dgL (olN d m)).length, 0 ≤ olN d m 74 ∧ olN d m 74 ≤ 64, 0 ≤ olN d m 0 ∧ olN d m 0 ≤ 32, (w4 w ++ (olE d m ++ [[1, 0]])).length < 1099511627770]) :=
  run_parts (by kernel_rfl) (by kernel_rfl) (by kernel_rfl)
noncomputable def F17l : SumF := fun args B => match args, B with
  | [.ptr 0 0, .ro 1 m f], [.log w] => some { val := .agg (b32 (atL (D32 (xZ (lOf f) m)))), upd := [(0, some (.log (w ++ ofT (lOf f) m)))], C := [f = rowL (lOf f), m ≤ 1000, ∀ i, i < m → (lOf f i).length ≤ 131072, w.length ≤ 90000000, (xZ (lOf f) m).length ≤ 1000000000] }
  | _, _ => none
theorem acc17l : Acc gv 17 F17l := by
  intro args B out h hC
  unfold F17l at h
  split at h
  · rename_i m f w
    simp only [Option.some.injEq] at h; subst h
    simp only [allC_cons, allC_nil, and_true] at hC
    obtain ⟨hf, hm, hl, hw, hb⟩ := hC
    generalize lOf f = d at *
    have hL := ol_loop
    refine FnOk.imp (args' := [.ptr 0 0, .ro 1 m (rowL d)]) ?_ ⟨DenImp.refl _, by rw [hf]; exact DenImp.refl _, trivial⟩
    have H0 : HS 32 [] [] (nwA 32 []) := HT_new (by decide) (by decide) (Nat.zero_le _)
    have M := HS_Z (m := m) H0 (Nat.zero_le _) hb m (Nat.le_refl _)
    have o := HT_ok (HT_75 M) (by decide) (by decide)
    have O0 : OkA (nwA 32 []) := HT_ok H0 (by decide) (by decide)
    have h74 : n75 (nwA 32 []) 74 = 0 := by rw [n75_at (by omega)]; kernel_rfl
    have hE := olE_len hl m (Nat.le_refl _)
    have hH : ofH d m = olN d m 74 := ofH_eq O0 h74 m
    have hr := ol_run d m w
    rw [of_val M hb] at hr
    have e3 : suW (w4 w ++ (olE d m ++ [[1, 0]])) (olN d m) = w ++ ofT d m := by
      show (w4 w ++ (olE d m ++ [[1, 0]])) ++ [[2, olN d m 74], [3, 31]] = _
      rw [ofT, hH, w4, evN0]
      simp only [List.append_assoc, List.cons_append, List.nil_append]
    rw [e3] at hr
    have oe := ofE_ok o
    simp only [ofE, allC_cons, allC_nil, and_true] at oe
    refine FnOk.val (C := []) (rd := []) (FnOk.run (out := { val := .agg (b32 (atL (D32 (xZ d m)))), upd := [(0, some (.log (w ++ ofT d m)))] }) (new := []) gv_ok hr ?_ (by simp [upto]) rfl (by simp) (by simp) (fun j hj => by
      match j, hj with
      | 0, _ => rfl)) (fun _ _ _ _ h => h)
    simp only [allC_cons, allC_nil, and_true, true_and, w4, List.length_append, List.length_cons, List.length_nil]
    exact ⟨by omega, by omega, by omega, by omega, hL, rfl, hm, hl, by omega, O0, h74, oe.1, oe.2.1, oe.2.2.1, oe.2.2.2.1, oe.2.2.2.2, by omega⟩
  · simp at h
/-! ### the document's events of Of -/
abbrev eoKeep : List Nat := [0, 3, 4, 5]
noncomputable abbrev eoBody : Code := bodyAt Tryd.prog 30 4
abbrev eoO (h i : Int) : List SV := [.own 0, .own 1, .int .i64 h, .int .i64 i]
abbrev eoS (h : Int) (i : Nat) : List (Nat × SV) := eoKeep.zip (eoO h (i : Int))
abbrev eoB (L : List Int) (E : List (List Int)) : List Body := [.ints .i64 L, .rows evK E]
noncomputable abbrev geo : Ctx := ge.add [(25, F25), (26, F26)]
theorem geo_ok : CtxU geo := ge_ok.add mixed noGo (by
  intro x hx
  simp only [List.mem_cons, List.not_mem_nil, or_false] at hx
  rcases hx with rfl | rfl
  · exact acc25
  · exact acc26)
abbrev eHl (h n : Int) : Int := ewH n.toNat h n
theorem eo_go (L : List Int) (E : List (List Int)) (h : Int) (i : Nat) : runC geo 300 42 [.br true] eoBody (eoS h i) (eoB L E) eoKeep [0, 5] =
    some (.normal, eoO (eHl h (L.getD i 0)) ((i : Int) + 1), (eoB L ((E ++ [[1, bI true], [2, (i : Int)]]) ++ evX h (L.getD i 0))).map some,
      [Fits .i64 (L.length : Int), decide ((i : Int) < (L.length : Int)) = true, (E ++ [[1, bI true], [2, (i : Int)]]).length * 16 ≤ 2 ^ 47, 0 ≤ h ∧ h ≤ 64, 0 ≤ L.getD i 0 ∧ L.getD i 0 ≤ 131072, i < L.length, (0 : Int) ≤ (i : Int) ∧ (i : Int) < (L.length : Int), ((E ++ [[1, bI true], [2, (i : Int)]]) ++ evX h (L.getD i 0)).length * 16 ≤ 2 ^ 47, Fits .i64 ((i : Int) + 1)]) :=
  r3_parts4 (by kernel_rfl) (by kernel_rfl) (by kernel_rfl) (by kernel_rfl)
theorem eo_end (L : List Int) (E : List (List Int)) (h : Int) (i : Nat) : runC geo 300 42 [.br false] eoBody (eoS h i) (eoB L E) eoKeep [0, 1] =
    some (.exit 0, eoO h (i : Int), (eoB L E).map some, [Fits .i64 (L.length : Int), decide ((i : Int) < (L.length : Int)) = false]) :=
  r3_parts4 (by kernel_rfl) (by kernel_rfl) (by kernel_rfl) (by kernel_rfl)
def eoH (L : List Int) : Nat → Int
  | 0 => 0
  | i + 1 => eHl (eoH L i) (L.getD i 0)
def eoE (L : List Int) : Nat → List (List Int)
  | 0 => evN0
  | i + 1 => (eoE L i ++ [[1, 1], [2, (i : Int)]]) ++ evX (eoH L i) (L.getD i 0)
def eoT (L : List Int) : List (List Int) := (eoE L L.length ++ [[1, 0]]) ++ [[2, eoH L L.length], [3, 31]]
abbrev LnC (L : List Int) : Prop := ∀ i, i < L.length → 0 ≤ L.getD i 0 ∧ L.getD i 0 ≤ 131072
theorem ewH_bd : ∀ (f : Nat) (h n : Int), n.toNat ≤ f → 0 ≤ n → 0 ≤ h ∧ h ≤ 64 → 0 ≤ ewH f h n ∧ ewH f h n ≤ 64
  | f, h, n, hf, hn, h0 => by
    by_cases c : n = 0
    · subst c; rw [(ew_n f h).2]; exact h0
    · obtain ⟨f, rfl⟩ : ∃ k, f = k + 1 := ⟨f - 1, by omega⟩
      have k := kR_bd h0 (show 0 < n by omega)
      have e2 : ewH (f + 1) h n = ewH f (hN h n) (n - kR h n) := by simp only [ewH]; exact if_pos (by omega)
      rw [e2]
      exact ewH_bd f _ _ (by omega) (by omega) ⟨k.2.2.1, k.2.2.2⟩
theorem eoH_ok {L : List Int} (h : LnC L) : ∀ i, i ≤ L.length → 0 ≤ eoH L i ∧ eoH L i ≤ 64
  | 0, _ => ⟨Int.le_refl 0, by show (0 : Int) ≤ 64; decide⟩
  | i + 1, hi => by
    have ih := eoH_ok h i (by omega)
    have := h i (by omega)
    exact ewH_bd _ _ _ (Nat.le_refl _) this.1 ih
theorem eoE_len {L : List Int} (h : LnC L) : ∀ i, i ≤ L.length → (eoE L i).length ≤ 655363 * i + 4
  | 0, _ => by simp [eoE]
  | i + 1, hi => by
    have ih := eoE_len h i (by omega)
    have h1 := h i (by omega)
    have := evX_len (eoH L i) (L.getD i 0)
    have e : ((eoE L i ++ [[1, 1], [2, (i : Int)]]) ++ evX (eoH L i) (L.getD i 0)).length = (eoE L i).length + 2 + (evX (eoH L i) (L.getD i 0)).length := by
      rw [List.length_append, List.length_append]; rfl
    simp only [eoE]
    omega
def eoG : LoopF := fun vals B => match vals, B with
  | [.own 0, .own 1, .int .i64 0, .int .i64 0], [.ints K L, .rows K2 E] => match sameK K .i64, sameKs K2 evK with
    | true, true => some ([(3, .own 1), (4, .int .i64 (eoH L L.length))], eoB L (eoE L L.length), [L.length ≤ 1000, LnC L, E = evN0])
    | _, _ => none
  | _, _ => none
theorem eo_loop : LoopGood geo 42 (.loop eoBody) eoKeep 1 (.exit 0) (mkLoopN eoG) := by
  refine LoopGood.mkN (by decide) fun vals B S' B' C hG hC hlen w0 O hgl => ?_
  clear hlen
  unfold eoG at hG
  split at hG
  · rename_i K L K2 E
    split at hG
    · rename_i hK hK2
      obtain rfl := kidx_inj hK
      obtain rfl := sameKs_eq hK2
      simp only [Option.some.injEq, Prod.mk.injEq] at hG
      obtain ⟨rfl, rfl, rfl⟩ := hG
      simp only [allC_cons, allC_nil, and_true] at hC
      obtain ⟨hL, hn, rfl⟩ := hC
      show SimC _ _ _ _ _ (eoS (eoH L 0) 0) (eoB L (eoE L 0)) _ _ _ _
      have i0 : ∀ u : Nat, ∀ j : Nat, j < 1 → ([0, u] : List Nat)[j]? = some j := fun u j hj => by
        match j, hj with
        | 0, _ => rfl
      refine SimC.iter (g := geo) (e := .exit 0) (S := fun i => eoS (eoH L i) i) (B := fun i => eoB L (eoE L i)) (N := L.length) (fun i hi => ?_) ?_ (by simp) 0 (by omega)
      · have h1 := eoH_ok hn i (by omega)
        have h2 := hn i hi
        have h3 := eoE_len hn i (by omega)
        have h4 : (evX (eoH L i) (L.getD i 0)).length ≤ 5 * (L.getD i 0).toNat + 1 := evX_len (eoH L i) (L.getD i 0)
        have h5 : ((eoE L i ++ [[1, bI true], [2, (i : Int)]]) ++ evX (eoH L i) (L.getD i 0)).length = (eoE L i).length + 2 + (evX (eoH L i) (L.getD i 0)).length := by
          rw [List.length_append, List.length_append]; rfl
        have h6 : (eoE L i ++ [[1, bI true], [2, (i : Int)]]).length = (eoE L i).length + 2 := by rw [List.length_append]; rfl
        refine SimC.run (B' := eoB L (eoE L (i + 1))) geo_ok (by decide) (eo_go L (eoE L i) (eoH L i) i) ?_ (by decide) (i0 5) (by decide) (by simp) hgl
        simp only [allC_cons, allC_nil, and_true]
        exact ⟨fits_of (by omega) (by omega), decide_eq_true (by omega), by omega, h1, h2, hi, ⟨by omega, by omega⟩, by omega, fits_of (by omega) (by omega)⟩
      · exact SimC.weaken (SimC.run (B' := eoB L (eoE L L.length)) geo_ok (by decide) (eo_end L _ _ L.length) (by simp only [allC_cons, allC_nil, and_true]; exact ⟨fits_of (by omega) (by omega), decide_eq_false (by omega)⟩) (by decide) (i0 1) (by decide) (by simp) hgl) (sub_mkT (by simp; exact ⟨rfl, rfl⟩))
    · simp at hG
  · simp at hG
/-! ### EventsHash's account -/
theorem eo_run (L : List Int) : runF geo 400 [.loop 4 eoKeep 1 (.exit 0) (mkLoopN eoG)] 30 [.own 0] [.ints .i64 L] [13] =
    some (.own 1, [some (.ints .i64 L), some (.rows evK (eoT L))], [(1 : Nat) * 16 ≤ 2 ^ 47, (2 : Nat) * 16 ≤ 2 ^ 47, (3 : Nat) * 16 ≤ 2 ^ 47, (4 : Nat) * 16 ≤ 2 ^ 47, LoopGood geo 42 (.loop eoBody) eoKeep 1 (.exit 0) (mkLoopN eoG), L.length ≤ 1000, LnC L, evN0 = evN0, (eoE L L.length ++ [[1, 0]]).length * 16 ≤ 2 ^ 47, ((eoE L L.length ++ [[1, 0]]) ++ [[2, eoH L L.length], [3, 31]]).length * 16 ≤ 2 ^ 47]) :=
  run_parts (by kernel_rfl) (by kernel_rfl) (by kernel_rfl)
def F30 : SumF := fun args B => match args, B with
  | [.own 0], [.ints K L] => match sameK K .i64 with
    | true => some { val := .own 1, new := [.rows evK (eoT L)], C := [L.length ≤ 1000, LnC L] }
    | _ => none
  | _, _ => none
theorem eoT_len {L : List Int} (hL : L.length ≤ 1000) (hn : LnC L) : (eoT L).length ≤ 655364000 ∧ (eoE L L.length).length ≤ 655363900 ∧ (eoE L L.length ++ [[1, 0]]).length ≤ 655363901 := by
  have h3 := eoE_len hn L.length (Nat.le_refl _)
  simp only [eoT, List.length_append, List.length_cons, List.length_nil]
  omega
theorem acc30 : Acc geo 30 F30 := by
  intro args B out h hC
  unfold F30 at h
  split at h
  · rename_i K L
    split at h
    · rename_i hK
      obtain rfl := kidx_inj hK
      simp only [Option.some.injEq] at h; subst h
      simp only [allC_cons, allC_nil, and_true] at hC
      obtain ⟨hL, hn⟩ := hC
      have hg := eo_loop
      have hl := eoT_len hL hn
      have hl2 : ((eoE L L.length ++ [[1, 0]]) ++ [[2, eoH L L.length], [3, 31]]).length ≤ 655364000 := hl.1
      exact FnOk.val (C := []) (rd := []) (FnOk.run (out := { val := .own 1, new := [.rows evK (eoT L)] }) (new := [13]) geo_ok (eo_run L) (by
        simp only [allC_cons, allC_nil, and_true, true_and]
        exact ⟨by decide, by decide, by decide, by decide, hg, hL, hn, by omega, by omega⟩) (by simp [upto]) rfl (by simp) (by simp) (fun j hj => by
        match j, hj with
        | 0, _ => rfl
        | 1, _ => rfl)) (fun _ _ _ _ h => h)
    · simp at h
  · simp at h
/-- the document's events and the code's -/
theorem eoT_eq (d : Nat → List Int) (m : Nat) : eoT (lnL d m) = ofT d m := by
  have key : ∀ i, i ≤ m → eoH (lnL d m) i = ofH d i ∧ eoE (lnL d m) i = evN0 ++ olE d i := by
    intro i
    induction i with
    | zero => intro _; exact ⟨rfl, rfl⟩
    | succ i ih =>
      intro hi
      obtain ⟨h1, h2⟩ := ih (by omega)
      have e := lnL_get d (m := m) (i := i) (by omega)
      refine ⟨by simp only [eoH, ofH]; rw [h1, e], ?_⟩
      simp only [eoE, olE]
      rw [h1, h2, e]
      simp only [List.append_assoc]
      rfl
  obtain ⟨h1, h2⟩ := key m (Nat.le_refl _)
  rw [eoT, ofT, lnL_len, h1, h2]
theorem lnL_ok {d : Nat → List Int} {m : Nat} (hl : ∀ i, i < m → (d i).length ≤ 131072) : LnC (lnL d m) := fun i hi => by
  rw [lnL_len] at hi
  rw [lnL_get d hi]
  have := hl i hi
  exact ⟨by omega, by omega⟩
/-! ### the document's Hash -/
noncomputable abbrev gh : Ctx := gd3.add [(11, F11 fun _ => true)]
theorem gh_ok : CtxU gh := gd3_ok.add mixed noGo (by
  intro x hx
  simp only [List.mem_cons, List.not_mem_nil, or_false] at hx
  rcases hx with rfl
  exact acc11 (fun _ => true))
theorem hs_run (x : List Int) : runF gh 900 [.br true, .br true, .br true, .br true, .br true, .br true, .br true, .br true, .br true, .br true, .br true, .br true, .br true, .br true, .br true, .br true, .br true, .br true, .br true, .br true, .br true, .br true, .br true, .br true, .br true, .br true, .br true, .br true, .br true, .br true, .br true, .br true, .br false] 28 [.own 0] [.ints .u8 x] [] =
    some (.agg (b32 (atL (D32 x))), [some (.ints .u8 x)], [(1 : Int) ≤ 32, (32 : Int) ≤ 32, ([] : List Int).length ≤ 32, Bytes [], Bytes x, x.length ≤ 70368744177664, decide ((0 : Int) < ((D32 x).length : Int)) = true, Fits .i64 ((D32 x).length : Int), 0 < (D32 x).length, (0 : Int) ≤ 0 ∧ (0 : Int) < ((D32 x).length : Int), decide ((1 : Int) < ((D32 x).length : Int)) = true, Fits .i64 ((D32 x).length : Int), 1 < (D32 x).length, (0 : Int) ≤ 1 ∧ (1 : Int) < ((D32 x).length : Int), decide ((2 : Int) < ((D32 x).length : Int)) = true, Fits .i64 ((D32 x).length : Int), 2 < (D32 x).length, (0 : Int) ≤ 2 ∧ (2 : Int) < ((D32 x).length : Int), decide ((3 : Int) < ((D32 x).length : Int)) = true, Fits .i64 ((D32 x).length : Int), 3 < (D32 x).length, (0 : Int) ≤ 3 ∧ (3 : Int) < ((D32 x).length : Int), decide ((4 : Int) < ((D32 x).length : Int)) = true, Fits .i64 ((D32 x).length : Int), 4 < (D32 x).length, (0 : Int) ≤ 4 ∧ (4 : Int) < ((D32 x).length : Int), decide ((5 : Int) < ((D32 x).length : Int)) = true, Fits .i64 ((D32 x).length : Int), 5 < (D32 x).length, (0 : Int) ≤ 5 ∧ (5 : Int) < ((D32 x).length : Int), decide ((6 : Int) < ((D32 x).length : Int)) = true, Fits .i64 ((D32 x).length : Int), 6 < (D32 x).length, (0 : Int) ≤ 6 ∧ (6 : Int) < ((D32 x).length : Int), decide ((7 : Int) < ((D32 x).length : Int)) = true, Fits .i64 ((D32 x).length : Int), 7 < (D32 x).length, (0 : Int) ≤ 7 ∧ (7 : Int) < ((D32 x).length : Int), decide ((8 : Int) < ((D32 x).length : Int)) = true, Fits .i64 ((D32 x).length : Int), 8 < (D32 x).length, (0 : Int) ≤ 8 ∧ (8 : Int) < ((D32 x).length : Int), decide ((9 : Int) < ((D32 x).length : Int)) = true, Fits .i64 ((D32 x).length : Int), 9 < (D32 x).length, (0 : Int) ≤ 9 ∧ (9 : Int) < ((D32 x).length : Int), decide ((10 : Int) < ((D32 x).length : Int)) = true, Fits .i64 ((D32 x).length : Int), 10 < (D32 x).length, (0 : Int) ≤ 10 ∧ (10 : Int) < ((D32 x).length : Int), decide ((11 : Int) < ((D32 x).length : Int)) = true, Fits .i64 ((D32 x).length : Int), 11 < (D32 x).length, (0 : Int) ≤ 11 ∧ (11 : Int) < ((D32 x).length : Int), decide ((12 : Int) < ((D32 x).length : Int)) = true, Fits .i64 ((D32 x).length : Int), 12 < (D32 x).length, (0 : Int) ≤ 12 ∧ (12 : Int) < ((D32 x).length : Int), decide ((13 : Int) < ((D32 x).length : Int)) = true, Fits .i64 ((D32 x).length : Int), 13 < (D32 x).length, (0 : Int) ≤ 13 ∧ (13 : Int) < ((D32 x).length : Int), decide ((14 : Int) < ((D32 x).length : Int)) = true, Fits .i64 ((D32 x).length : Int), 14 < (D32 x).length, (0 : Int) ≤ 14 ∧ (14 : Int) < ((D32 x).length : Int), decide ((15 : Int) < ((D32 x).length : Int)) = true, Fits .i64 ((D32 x).length : Int), 15 < (D32 x).length, (0 : Int) ≤ 15 ∧ (15 : Int) < ((D32 x).length : Int), decide ((16 : Int) < ((D32 x).length : Int)) = true, Fits .i64 ((D32 x).length : Int), 16 < (D32 x).length, (0 : Int) ≤ 16 ∧ (16 : Int) < ((D32 x).length : Int), decide ((17 : Int) < ((D32 x).length : Int)) = true, Fits .i64 ((D32 x).length : Int), 17 < (D32 x).length, (0 : Int) ≤ 17 ∧ (17 : Int) < ((D32 x).length : Int), decide ((18 : Int) < ((D32 x).length : Int)) = true, Fits .i64 ((D32 x).length : Int), 18 < (D32 x).length, (0 : Int) ≤ 18 ∧ (18 : Int) < ((D32 x).length : Int), decide ((19 : Int) < ((D32 x).length : Int)) = true, Fits .i64 ((D32 x).length : Int), 19 < (D32 x).length, (0 : Int) ≤ 19 ∧ (19 : Int) < ((D32 x).length : Int), decide ((20 : Int) < ((D32 x).length : Int)) = true, Fits .i64 ((D32 x).length : Int), 20 < (D32 x).length, (0 : Int) ≤ 20 ∧ (20 : Int) < ((D32 x).length : Int), decide ((21 : Int) < ((D32 x).length : Int)) = true, Fits .i64 ((D32 x).length : Int), 21 < (D32 x).length, (0 : Int) ≤ 21 ∧ (21 : Int) < ((D32 x).length : Int), decide ((22 : Int) < ((D32 x).length : Int)) = true, Fits .i64 ((D32 x).length : Int), 22 < (D32 x).length, (0 : Int) ≤ 22 ∧ (22 : Int) < ((D32 x).length : Int), decide ((23 : Int) < ((D32 x).length : Int)) = true, Fits .i64 ((D32 x).length : Int), 23 < (D32 x).length, (0 : Int) ≤ 23 ∧ (23 : Int) < ((D32 x).length : Int), decide ((24 : Int) < ((D32 x).length : Int)) = true, Fits .i64 ((D32 x).length : Int), 24 < (D32 x).length, (0 : Int) ≤ 24 ∧ (24 : Int) < ((D32 x).length : Int), decide ((25 : Int) < ((D32 x).length : Int)) = true, Fits .i64 ((D32 x).length : Int), 25 < (D32 x).length, (0 : Int) ≤ 25 ∧ (25 : Int) < ((D32 x).length : Int), decide ((26 : Int) < ((D32 x).length : Int)) = true, Fits .i64 ((D32 x).length : Int), 26 < (D32 x).length, (0 : Int) ≤ 26 ∧ (26 : Int) < ((D32 x).length : Int), decide ((27 : Int) < ((D32 x).length : Int)) = true, Fits .i64 ((D32 x).length : Int), 27 < (D32 x).length, (0 : Int) ≤ 27 ∧ (27 : Int) < ((D32 x).length : Int), decide ((28 : Int) < ((D32 x).length : Int)) = true, Fits .i64 ((D32 x).length : Int), 28 < (D32 x).length, (0 : Int) ≤ 28 ∧ (28 : Int) < ((D32 x).length : Int), decide ((29 : Int) < ((D32 x).length : Int)) = true, Fits .i64 ((D32 x).length : Int), 29 < (D32 x).length, (0 : Int) ≤ 29 ∧ (29 : Int) < ((D32 x).length : Int), decide ((30 : Int) < ((D32 x).length : Int)) = true, Fits .i64 ((D32 x).length : Int), 30 < (D32 x).length, (0 : Int) ≤ 30 ∧ (30 : Int) < ((D32 x).length : Int), decide ((31 : Int) < ((D32 x).length : Int)) = true, Fits .i64 ((D32 x).length : Int), 31 < (D32 x).length, (0 : Int) ≤ 31 ∧ (31 : Int) < ((D32 x).length : Int), decide ((32 : Int) < ((D32 x).length : Int)) = false, Fits .i64 ((D32 x).length : Int)]) :=
  run_parts (by kernel_rfl) (by kernel_rfl) (by kernel_rfl)
noncomputable def F28 : SumF := fun args B => match args, B with
  | [.own 0], [.ints K x] => match sameK K .u8 with
    | true => some { val := .agg (b32 (atL (D32 x))), C := [Bytes x, x.length ≤ 70368744177664] }
    | _ => none
  | _, _ => none
theorem acc28 : Acc gh 28 F28 := by
  intro args B out h hC
  unfold F28 at h
  split at h
  · rename_i K x
    split at h
    · rename_i hK
      obtain rfl := kidx_inj hK
      simp only [Option.some.injEq] at h; subst h
      simp only [allC_cons, allC_nil, and_true] at hC
      obtain ⟨hb, hl⟩ := hC
      have e := D32_len x
      have F : Fits .i64 ((D32 x).length : Int) := fits_of (by omega) (by omega)
      refine FnOk.val (C := []) (rd := []) (FnOk.run (out := { val := .agg (b32 (atL (D32 x))) }) (new := []) gh_ok (hs_run x) ?_ (by simp [upto]) rfl (by simp) (by simp) (fun j hj => by
        match j, hj with
        | 0, _ => rfl)) (fun _ _ _ _ h => h)
      generalize D32 x = D at *
      simp only [allC_cons, allC_nil, and_true]
      exact ⟨by decide, by decide, Nat.zero_le _, bytes_rep 0, hb, hl, decide_eq_true (by omega), F, by omega, ⟨by omega, by omega⟩, decide_eq_true (by omega), F, by omega, ⟨by omega, by omega⟩, decide_eq_true (by omega), F, by omega, ⟨by omega, by omega⟩, decide_eq_true (by omega), F, by omega, ⟨by omega, by omega⟩, decide_eq_true (by omega), F, by omega, ⟨by omega, by omega⟩, decide_eq_true (by omega), F, by omega, ⟨by omega, by omega⟩, decide_eq_true (by omega), F, by omega, ⟨by omega, by omega⟩, decide_eq_true (by omega), F, by omega, ⟨by omega, by omega⟩, decide_eq_true (by omega), F, by omega, ⟨by omega, by omega⟩, decide_eq_true (by omega), F, by omega, ⟨by omega, by omega⟩, decide_eq_true (by omega), F, by omega, ⟨by omega, by omega⟩, decide_eq_true (by omega), F, by omega, ⟨by omega, by omega⟩, decide_eq_true (by omega), F, by omega, ⟨by omega, by omega⟩, decide_eq_true (by omega), F, by omega, ⟨by omega, by omega⟩, decide_eq_true (by omega), F, by omega, ⟨by omega, by omega⟩, decide_eq_true (by omega), F, by omega, ⟨by omega, by omega⟩, decide_eq_true (by omega), F, by omega, ⟨by omega, by omega⟩, decide_eq_true (by omega), F, by omega, ⟨by omega, by omega⟩, decide_eq_true (by omega), F, by omega, ⟨by omega, by omega⟩, decide_eq_true (by omega), F, by omega, ⟨by omega, by omega⟩, decide_eq_true (by omega), F, by omega, ⟨by omega, by omega⟩, decide_eq_true (by omega), F, by omega, ⟨by omega, by omega⟩, decide_eq_true (by omega), F, by omega, ⟨by omega, by omega⟩, decide_eq_true (by omega), F, by omega, ⟨by omega, by omega⟩, decide_eq_true (by omega), F, by omega, ⟨by omega, by omega⟩, decide_eq_true (by omega), F, by omega, ⟨by omega, by omega⟩, decide_eq_true (by omega), F, by omega, ⟨by omega, by omega⟩, decide_eq_true (by omega), F, by omega, ⟨by omega, by omega⟩, decide_eq_true (by omega), F, by omega, ⟨by omega, by omega⟩, decide_eq_true (by omega), F, by omega, ⟨by omega, by omega⟩, decide_eq_true (by omega), F, by omega, ⟨by omega, by omega⟩, decide_eq_true (by omega), F, by omega, ⟨by omega, by omega⟩, decide_eq_false (by omega), F⟩
    · simp at h
  · simp at h
end Go.Proofs.Tryd
