/- Accounts of this seat's functions: lemmas, no statement of their own. No conditions. -/
import Derived.Test.YtkpkdingeomhnaaTO
import Derived.Test.YtkpkdingeomhnaaV4
namespace Go.Proofs.Ytkpkdingeomhnaa
open Go Go.Vx
/-! ### rows compared with themselves -/
theorem rs_go (l : List (List Int)) (i : Nat) : runC g1 200 26 [.br true, .br false] rnBody (rnKeep.zip [.own 0, .own 0, .int .i64 (i : Int)]) [.rows [.i64, .i64, .i64] l] rnKeep [0] =
    some (Ex.normal, [SV.own (0 : Nat), SV.own (0 : Nat), SV.int IntKind.i64 ((↑i : Int) + (1 : Int))], [some (Body.rows [IntKind.i64, IntKind.i64, IntKind.i64] l)], [Fits IntKind.i64 (↑l.length : Int), decide ((↑i : Int) < (↑l.length : Int)) = true, i < l.length, i < l.length, i < l.length, (0 : Int) ≤ (↑i : Int) ∧ (↑i : Int) < (↑l.length : Int), i < l.length, i < l.length, i < l.length, (0 : Int) ≤ (↑i : Int) ∧ (↑i : Int) < (↑l.length : Int), (!decide ([(l.getD (↑i : Int).toNat []).getD ((0 : Nat) + (0 : Nat)) (0 : Int), (l.getD (↑i : Int).toNat []).getD ((0 : Nat) + ((0 : Nat) + (1 : Nat))) (0 : Int), (l.getD (↑i : Int).toNat []).getD ((0 : Nat) + ((0 : Nat) + (1 : Nat) + (1 : Nat))) (0 : Int)] = [(l.getD (↑i : Int).toNat []).getD ((0 : Nat) + (0 : Nat)) (0 : Int), (l.getD (↑i : Int).toNat []).getD ((0 : Nat) + ((0 : Nat) + (1 : Nat))) (0 : Int), (l.getD (↑i : Int).toNat []).getD ((0 : Nat) + ((0 : Nat) + (1 : Nat) + (1 : Nat))) (0 : Int)])) = false, Fits IntKind.i64 ((↑i : Int) + (1 : Int))]) := by kernel_rfl
theorem rs_end (l : List (List Int)) (i : Nat) : runC g1 200 26 [.br false] rnBody (rnKeep.zip [.own 0, .own 0, .int .i64 (i : Int)]) [.rows [.i64, .i64, .i64] l] [] [0] =
    some (Ex.exit (0 : Nat), [], [some (Body.rows [IntKind.i64, IntKind.i64, IntKind.i64] l)], [Fits IntKind.i64 (↑l.length : Int), decide ((↑i : Int) < (↑l.length : Int)) = false]) := by kernel_rfl
def rsG : LoopF := fun vals B => match vals, B with
  | [.own 0, .own 0, .int .i64 0], [.rows K l] => match sameKs K [.i64, .i64, .i64] with
    | true => some ([], [.rows [.i64, .i64, .i64] l], [Fits .i64 (l.length : Int)])
    | false => none
  | _, _ => none
theorem rs_all : LoopGood g1 26 (.loop rnBody) rnKeep 1 (.exit 0) (mkLoopN rsG) := by
  refine LoopGood.mkN (by decide) fun vals B S' B' C hG hC hlen w0 O hgl => ?_
  clear hlen
  unfold rsG at hG
  split at hG
  · rename_i K l
    split at hG
    · rename_i hK
      obtain rfl := sameKs_eq hK
      simp only [Option.some.injEq, Prod.mk.injEq] at hG
      obtain ⟨rfl, rfl, rfl⟩ := hG
      simp only [allC_cons, allC_nil, and_true] at hC
      refine SimC.iter (g := g1) (S := fun i => rnKeep.zip [.own 0, .own 0, .int .i64 (i : Int)]) (B := fun _ => [.rows [.i64, .i64, .i64] l]) (N := l.length) (fun i hi => ?_) ?_ (by simp) 0 (by omega)
      · refine SimC.run (ids := [0]) g1_ok (by decide) (rs_go l i) ?_ (by decide) (fun j hj => by match j, hj with | 0, _ => rfl) (by decide) (by simp) hgl
        have := fits_i hC hi
        simp only [allC_cons, allC_nil, and_true]
        refine ⟨hC, decide_eq_true (by omega), hi, hi, hi, ⟨by omega, by omega⟩, hi, hi, hi, ⟨by omega, by omega⟩, by simp, this⟩
      · refine SimC.run (keep := []) (ids := [0]) g1_ok (by decide) (rs_end l l.length) ?_ (by decide) (fun j hj => by match j, hj with | 0, _ => rfl) (by decide) (by simp) hgl
        simp only [allC_cons, allC_nil, and_true]
        exact ⟨hC, decide_eq_false (by omega)⟩
    · simp at hG
  · simp at hG
theorem rs_run (l : List (List Int)) : runF g1 200 [.br false, .loop 4 rnKeep 1 (.exit 0) (mkLoopN rsG)] 27 [.own 0, .own 0] [.rows [.i64, .i64, .i64] l] [] =
    some (SV.bool true, [some (Body.rows [IntKind.i64, IntKind.i64, IntKind.i64] l)], [Fits IntKind.i64 (↑l.length : Int), Fits IntKind.i64 (↑l.length : Int), (!decide ((↑l.length : Int) = (↑l.length : Int))) = false, LoopGood g1 26 (.loop rnBody) rnKeep 1 (.exit 0) (mkLoopN rsG), Fits IntKind.i64 (↑l.length : Int)]) := by kernel_rfl
def rsF : SumF := fun args B => match args, B with
  | [.own 0, .own 0], [.rows K l] => match sameKs K [.i64, .i64, .i64] with
    | true => some { val := .bool true, C := [l.length ≤ 140737488355328] }
    | false => none
  | x, y => scanF [.i64, .i64, .i64] x y
theorem rs_acc : Acc g1 27 rsF := by
  intro args B out h hC
  unfold rsF at h
  split at h
  · rename_i K l
    split at h
    · rename_i hK
      obtain rfl := sameKs_eq hK
      simp only [Option.some.injEq] at h; subst h
      simp only [allC_cons, allC_nil, and_true] at hC
      refine FnOk.run (out := { val := .bool true, C := _ }) g1_ok (rs_run l) ?_ (by simp [upto]) rfl (by simp) (by simp) (fun j hj => by match j, hj with
        | 0, _ => rfl
        | j + 1, hj => exact absurd hj (by simp))
      simp only [allC_cons, allC_nil, and_true]
      exact ⟨fits_small hC, fits_small hC, by simp, rs_all, fits_small hC⟩
    · simp at h
  · exact rn_acc _ _ _ h hC
noncomputable abbrev gw : Ctx := g4.add [(27, rsF)]
theorem gw_ok : CtxU gw := g4_ok.add mixed noGo (by
  intro x hx
  simp only [List.mem_cons, List.not_mem_nil, or_false] at hx
  subst hx
  exact fun args B out h hC => FnOk.of (g := g1) rfl rfl (rs_acc args B out h hC))
end Go.Proofs.Ytkpkdingeomhnaa

namespace Go.Proofs.Ytkpkdingeomhnaa
open Go Go.Vx
noncomputable abbrev c8 : Code := match Try.prog.funcs[8]? with | some fn => (match fn.body with | some c => c | none => .skip) | none => .skip
abbrev oK : List Nat := [3, 5, 6, 7, 10, 11]
abbrev oB (L W Bf : List (List Int)) (l r : Nat → List (List Int)) : List Body := [.log L, .rows [.i64, .i64] W, .cells [.own 5, .own 6, .own 7, .own 8], .cells [.own 9, .own 10, .own 11, .own 12], .rows [.i64, .i64, .i64] Bf,
  .rows [.i64, .i64] (l 0), .rows [.i64, .i64] (l 1), .rows [.i64, .i64] (l 2), .rows [.i64, .i64] (l 3), .rows [.i64, .i64, .i64] (r 0), .rows [.i64, .i64, .i64] (r 1), .rows [.i64, .i64, .i64] (r 2), .rows [.i64, .i64, .i64] (r 3)]
noncomputable abbrev wlC : Code := bodyAt Try.prog 8 22
noncomputable abbrev wrC : Code := bodyAt Try.prog 8 26
abbrev oV (i : Int) : List SV := [.ptr 0 0, .own 1, .ptr 2 0, .ptr 3 0, .own 4, .lit .i64 i]
abbrev oX (i : Int) (k : Int) : List SV := [.ptr 0 0, .own 1, .ptr 2 0, .ptr 3 0, .own 4, .lit .i64 i, .int .i64 k]
end Go.Proofs.Ytkpkdingeomhnaa

namespace Go.Proofs.Ytkpkdingeomhnaa
open Go Go.Vx
/-! ### rows written over -/
def updL (l : Nat → List (List Int)) (i : Nat) (x : List (List Int)) (j : Nat) : List (List Int) := match Nat.beq j i with | true => x | false => l j
abbrev poke (l : List (List Int)) (k t : Nat) (a : Int) : List (List Int) := l.set k ((l.getD k []).set t a)
abbrev o13 : List Nat := [0, 1, 2, 3, 4, 5, 6, 7, 8, 9, 10, 11, 12]
theorem wl_go (L W Bf : List (List Int)) (l r : Nat → List (List Int)) (k : Nat) : ∀ i : Nat, i < 4 → runC gw 300 266 [.br true] wlC ((oK ++ [12]).zip (oX (i : Int) (k : Int))) (oB L W Bf l r) (oK ++ [12]) o13 =
    some (.normal, oX (i : Int) ((k : Int) + 1), (oB L W Bf (updL l i (poke (poke (l i) k 0 (100 + (i : Int))) k 1 (k : Int))) r).map some,
      [Fits .i64 ((l i).length : Int), decide ((k : Int) < ((l i).length : Int)) = true, k < (l i).length, k < (poke (l i) k 0 (100 + (i : Int))).length, (0 : Int) ≤ (k : Int) ∧ (k : Int) < ((l i).length : Int), Fits .i64 ((k : Int) + 1)])
  | 0, _ => by kernel_rfl
  | 1, _ => by kernel_rfl
  | 2, _ => by kernel_rfl
  | 3, _ => by kernel_rfl
  | i + 4, h => absurd h (by omega)
theorem wl_end (L W Bf : List (List Int)) (l r : Nat → List (List Int)) (k : Nat) : ∀ i : Nat, i < 4 → runC gw 300 266 [.br false] wlC ((oK ++ [12]).zip (oX (i : Int) (k : Int))) (oB L W Bf l r) oK o13 =
    some (.exit 6, oV (i : Int), (oB L W Bf l r).map some, [Fits .i64 ((l i).length : Int), decide ((k : Int) < ((l i).length : Int)) = false])
  | 0, _ => by kernel_rfl
  | 1, _ => by kernel_rfl
  | 2, _ => by kernel_rfl
  | 3, _ => by kernel_rfl
  | i + 4, h => absurd h (by omega)
theorem wr_go (L W Bf : List (List Int)) (l r : Nat → List (List Int)) (k : Nat) : ∀ i : Nat, i < 4 → runC gw 300 266 [.br true] wrC ((oK ++ [13]).zip (oX (i : Int) (k : Int))) (oB L W Bf l r) (oK ++ [13]) o13 =
    some (.normal, oX (i : Int) ((k : Int) + 1), (oB L W Bf l (updL r i (poke (poke (poke (r i) k 0 0) k 1 0) k 2 (-1 - (i : Int))))).map some,
      [Fits .i64 ((r i).length : Int), decide ((k : Int) < ((r i).length : Int)) = true, k < (r i).length, k < (poke (r i) k 0 0).length, k < (poke (poke (r i) k 0 0) k 1 0).length, (0 : Int) ≤ (k : Int) ∧ (k : Int) < ((r i).length : Int), Fits .i64 ((k : Int) + 1)])
  | 0, _ => by kernel_rfl
  | 1, _ => by kernel_rfl
  | 2, _ => by kernel_rfl
  | 3, _ => by kernel_rfl
  | i + 4, h => absurd h (by omega)
theorem wr_end (L W Bf : List (List Int)) (l r : Nat → List (List Int)) (k : Nat) : ∀ i : Nat, i < 4 → runC gw 300 266 [.br false] wrC ((oK ++ [13]).zip (oX (i : Int) (k : Int))) (oB L W Bf l r) oK o13 =
    some (.exit 8, oV (i : Int), (oB L W Bf l r).map some, [Fits .i64 ((r i).length : Int), decide ((k : Int) < ((r i).length : Int)) = false])
  | 0, _ => by kernel_rfl
  | 1, _ => by kernel_rfl
  | 2, _ => by kernel_rfl
  | 3, _ => by kernel_rfl
  | i + 4, h => absurd h (by omega)
theorem updL_self (l : Nat → List (List Int)) (i : Nat) (x : List (List Int)) : updL l i x i = x := by simp [updL]
theorem updL_upd (l : Nat → List (List Int)) (i : Nat) (x y : List (List Int)) : updL (updL l i x) i y = updL l i y := by
  funext j; unfold updL; cases Nat.beq j i <;> rfl
theorem updL_same (l : Nat → List (List Int)) (i : Nat) : updL l i (l i) = l := by
  funext j; unfold updL
  cases h : Nat.beq j i with
  | true => rw [Nat.eq_of_beq_eq_true h]
  | false => rfl
theorem poke_mid (A : List (List Int)) (x : List Int) (R : List (List Int)) (t : Nat) (a : Int) {k : Nat} (hk : A.length = k) : poke (A ++ x :: R) k t a = A ++ x.set t a :: R := by
  subst hk
  simp [poke, List.getD_eq_getElem?_getD]
/-- the marks -/
def mkA (i k : Nat) : List (List Int) := (List.range k).map fun (j : Nat) => [100 + (i : Int), (j : Int)]
def mkR (i k : Nat) : List (List Int) := List.replicate k [0, 0, -1 - (i : Int)]
theorem mkA_len (i k : Nat) : (mkA i k).length = k := by simp [mkA]
theorem mkR_len (i k : Nat) : (mkR i k).length = k := by simp [mkR]
theorem mkA_succ (i k : Nat) : mkA i (k + 1) = mkA i k ++ [[100 + (i : Int), (k : Int)]] := by simp [mkA, List.range_succ]
theorem mkR_succ (i k : Nat) : mkR i (k + 1) = mkR i k ++ [[0, 0, -1 - (i : Int)]] := by simp [mkR, List.replicate_succ']
theorem wl_poke {i k : Nat} {l : List (List Int)} (hk : k < l.length) (hl : ∀ r ∈ l, r.length = 2) :
    poke (poke (mkA i k ++ l.drop k) k 0 (100 + (i : Int))) k 1 (k : Int) = mkA i (k + 1) ++ l.drop (k + 1) := by
  rw [List.drop_eq_getElem_cons hk, poke_mid _ _ _ _ _ (mkA_len i k), poke_mid _ _ _ _ _ (mkA_len i k), mkA_succ]
  have := hl l[k] (List.getElem_mem hk)
  match l[k], this with
  | [p, q], _ => simp
theorem wr_poke {i k : Nat} {l : List (List Int)} (hk : k < l.length) (hl : ∀ r ∈ l, r.length = 3) :
    poke (poke (poke (mkR i k ++ l.drop k) k 0 0) k 1 0) k 2 (-1 - (i : Int)) = mkR i (k + 1) ++ l.drop (k + 1) := by
  rw [List.drop_eq_getElem_cons hk, poke_mid _ _ _ _ _ (mkR_len i k), poke_mid _ _ _ _ _ (mkR_len i k), poke_mid _ _ _ _ _ (mkR_len i k), mkR_succ]
  have := hl l[k] (List.getElem_mem hk)
  match l[k], this with
  | [p, q, s], _ => simp
def gN : SV → Nat | .lit _ n => n.toNat | .int _ n => n.toNat | _ => 0
def gR (B : List Body) (i : Nat) : List (List Int) := match B[i]? with | some (.rows _ l) => l | some (.grow _ l) => l | some (.log l) => l | _ => []
def gl (B : List Body) (j : Nat) : List (List Int) := gR B (5 + j)
def gr (B : List Body) (j : Nat) : List (List Int) := gR B (9 + j)
def wlG : LoopF := fun vals B =>
  let i := gN (vals.getD 5 .any); let l := gl B; let r := gr B
  some (oK.zip (oV (i : Int)), oB (gR B 0) (gR B 1) (gR B 4) (updL l i (mkA i (l i).length)) r, [vals = oV (i : Int) ++ [SV.lit .i64 0], B = oB (gR B 0) (gR B 1) (gR B 4) l r, i < 4, (l i).length ≤ 2000, ∀ x ∈ l i, x.length = 2])
def wrG : LoopF := fun vals B =>
  let i := gN (vals.getD 5 .any); let l := gl B; let r := gr B
  some (oK.zip (oV (i : Int)), oB (gR B 0) (gR B 1) (gR B 4) l (updL r i (mkR i (r i).length)), [vals = oV (i : Int) ++ [SV.lit .i64 0], B = oB (gR B 0) (gR B 1) (gR B 4) l r, i < 4, (r i).length ≤ 2000, ∀ x ∈ r i, x.length = 3])
theorem o13_ids : ∀ j, j < 13 → o13[j]? = some j := by decide
theorem oX_imp (i : Int) (s : Nat) (hs : s < 65535) (t : Nat) : DenImp (tget (mkT ((oK ++ [s]).zip (oV i ++ [SV.lit .i64 0]))) t) (tget (mkT ((oK ++ [s]).zip (oX i ((0 : Nat) : Int)))) t) := by
  refine zip_rel (R := DenImp) (DenImp.refl _) (oK ++ [s]) (oV i ++ [SV.lit .i64 0]) (oX i ((0 : Nat) : Int)) (fun t ht => by simp at ht; omega) rfl (fun j c c' h1 h2 => ?_) t
  match j with
  | 0 | 1 | 2 | 3 | 4 | 5 => simp at h1 h2; subst h1; subst h2; exact DenImp.refl _
  | 6 => simp at h1 h2; subst h1; subst h2; exact norm_imp (.lit .i64 0)
  | j + 7 => simp at h1
theorem wl_loop : LoopGood gw 266 (.loop wlC) (oK ++ [12]) 13 (.exit 6) wlG := by
  intro vals B S' B' C hG hC hlen w0 O hgl
  unfold wlG at hG
  simp only at hG
  generalize gN (vals.getD 5 .any) = i at hG
  generalize gl B = l at hG
  generalize gr B = r at hG
  generalize gR B 0 = L at hG
  generalize gR B 1 = W at hG
  generalize gR B 4 = Bf at hG
  simp only [Option.some.injEq, Prod.mk.injEq] at hG
  obtain ⟨rfl, rfl, rfl⟩ := hG
  simp only [allC_cons, allC_nil, and_true] at hC
  obtain ⟨rfl, rfl, hi, hl, hr⟩ := hC
  refine SimC.pre ?_ (oX_imp (i : Int) 12 (by decide))
  have e0 : oB L W Bf l r = oB L W Bf (updL l i (mkA i 0 ++ (l i).drop 0)) r := by
    rw [show mkA i 0 ++ (l i).drop 0 = l i by simp [mkA], updL_same]
  have e1 : mkA i (l i).length ++ (l i).drop (l i).length = mkA i (l i).length := by simp
  rw [e0, ← e1]
  refine SimC.iter (g := gw) (S := fun k => (oK ++ [12]).zip (oX (i : Int) (k : Int))) (B := fun k => oB L W Bf (updL l i (mkA i k ++ (l i).drop k)) r) (N := (l i).length) (e := .exit 6) (fun k hk => ?_) ?_ (by simp) 0 (Nat.zero_le _)
  · have h := wl_go L W Bf (updL l i (mkA i k ++ (l i).drop k)) r k i hi
    have hn : (mkA i k ++ (l i).drop k).length = (l i).length := by simp [mkA_len]; omega
    rw [updL_self, updL_upd, wl_poke hk hr, hn] at h
    refine SimC.run (ids := o13) gw_ok (by decide) h ?_ (by decide) o13_ids (by decide) (by simp) hgl
    simp only [allC_cons, allC_nil, and_true]
    exact ⟨fits_small (by omega), decide_eq_true (by omega), hk, by simp only [List.length_set, hn]; exact hk, ⟨by omega, by omega⟩, fits_small (n := k + 1) (by omega)⟩
  · have h := wl_end L W Bf (updL l i (mkA i (l i).length ++ (l i).drop (l i).length)) r (l i).length i hi
    have hn : (mkA i (l i).length ++ (l i).drop (l i).length).length = (l i).length := by simp [mkA_len]
    rw [updL_self, hn] at h
    refine SimC.run (ids := o13) gw_ok (by decide) h ?_ (by decide) o13_ids (by decide) (by simp) hgl
    simp only [allC_cons, allC_nil, and_true]
    exact ⟨fits_small (by omega), decide_eq_false (by omega)⟩
theorem wr_loop : LoopGood gw 266 (.loop wrC) (oK ++ [13]) 13 (.exit 8) wrG := by
  intro vals B S' B' C hG hC hlen w0 O hgl
  unfold wrG at hG
  simp only at hG
  generalize gN (vals.getD 5 .any) = i at hG
  generalize gl B = l at hG
  generalize gr B = r at hG
  generalize gR B 0 = L at hG
  generalize gR B 1 = W at hG
  generalize gR B 4 = Bf at hG
  simp only [Option.some.injEq, Prod.mk.injEq] at hG
  obtain ⟨rfl, rfl, rfl⟩ := hG
  simp only [allC_cons, allC_nil, and_true] at hC
  obtain ⟨rfl, rfl, hi, hl, hr⟩ := hC
  refine SimC.pre ?_ (oX_imp (i : Int) 13 (by decide))
  have e0 : oB L W Bf l r = oB L W Bf l (updL r i (mkR i 0 ++ (r i).drop 0)) := by
    rw [show mkR i 0 ++ (r i).drop 0 = r i by simp [mkR], updL_same]
  have e1 : mkR i (r i).length ++ (r i).drop (r i).length = mkR i (r i).length := by simp
  rw [e0, ← e1]
  refine SimC.iter (g := gw) (S := fun k => (oK ++ [13]).zip (oX (i : Int) (k : Int))) (B := fun k => oB L W Bf l (updL r i (mkR i k ++ (r i).drop k))) (N := (r i).length) (e := .exit 8) (fun k hk => ?_) ?_ (by simp) 0 (Nat.zero_le _)
  · have h := wr_go L W Bf l (updL r i (mkR i k ++ (r i).drop k)) k i hi
    have hn : (mkR i k ++ (r i).drop k).length = (r i).length := by simp [mkR_len]; omega
    rw [updL_self, updL_upd, wr_poke hk hr, hn] at h
    refine SimC.run (ids := o13) gw_ok (by decide) h ?_ (by decide) o13_ids (by decide) (by simp) hgl
    simp only [allC_cons, allC_nil, and_true]
    exact ⟨fits_small (by omega), decide_eq_true (by omega), hk, by simp only [List.length_set, hn]; exact hk, by simp only [List.length_set, hn]; exact hk, ⟨by omega, by omega⟩, fits_small (n := k + 1) (by omega)⟩
  · have h := wr_end L W Bf l (updL r i (mkR i (r i).length ++ (r i).drop (r i).length)) (r i).length i hi
    have hn : (mkR i (r i).length ++ (r i).drop (r i).length).length = (r i).length := by simp [mkR_len]
    rw [updL_self, hn] at h
    refine SimC.run (ids := o13) gw_ok (by decide) h ?_ (by decide) o13_ids (by decide) (by simp) hgl
    simp only [allC_cons, allC_nil, and_true]
    exact ⟨fits_small (by omega), decide_eq_false (by omega)⟩
end Go.Proofs.Ytkpkdingeomhnaa

namespace Go.Proofs.Ytkpkdingeomhnaa
open Go Go.Vx
noncomputable abbrev wwC : Code := bodyAt Try.prog 8 19
theorem ww_go (L W Bf : List (List Int)) (l r : Nat → List (List Int)) : ∀ i : Nat, i < 4 → runC gw 300 266 [.loop 22 (oK ++ [12]) 13 (.exit 6) wlG, .loop 26 (oK ++ [13]) 13 (.exit 8) wrG] wwC (oK.zip (oV (i : Int))) (oB L W Bf l r) oK o13 =
    some (.normal, oV ((i : Int) + 1), (oB L W Bf (updL l i (mkA i (l i).length)) (updL r i (mkR i (r i).length))).map some,
      [LoopGood gw 266 (.loop wlC) (oK ++ [12]) 13 (.exit 6) wlG, oV (i : Int) ++ [SV.lit .i64 0] = oV (i : Int) ++ [SV.lit .i64 0], oB L W Bf l r = oB L W Bf l r, i < 4, (l i).length ≤ 2000, ∀ x ∈ l i, x.length = 2,
       LoopGood gw 266 (.loop wrC) (oK ++ [13]) 13 (.exit 8) wrG, oV (i : Int) ++ [SV.lit .i64 0] = oV (i : Int) ++ [SV.lit .i64 0], oB L W Bf (updL l i (mkA i (l i).length)) r = oB L W Bf (updL l i (mkA i (l i).length)) r, i < 4, (r i).length ≤ 2000, ∀ x ∈ r i, x.length = 3])
  | 0, _ => by kernel_rfl
  | 1, _ => by kernel_rfl
  | 2, _ => by kernel_rfl
  | 3, _ => by kernel_rfl
  | i + 4, h => absurd h (by omega)
theorem ww_end (L W Bf : List (List Int)) (l r : Nat → List (List Int)) : runC gw 300 266 [] wwC (oK.zip (oV 4)) (oB L W Bf l r) [3, 5, 6, 7, 10] o13 =
    some (.exit 4, [.ptr 0 0, .own 1, .ptr 2 0, .ptr 3 0, .own 4], (oB L W Bf l r).map some, []) := by kernel_rfl
end Go.Proofs.Ytkpkdingeomhnaa

namespace Go.Proofs.Ytkpkdingeomhnaa
open Go Go.Vx
/-! ### the appends -/
abbrev K2 : List IntKind := [.i64, .i64]
abbrev K3 : List IntKind := [.i64, .i64, .i64]
def sel {α : Type} (i j : Nat) (x y : α) : α := match Nat.blt j i with | true => x | false => y
abbrev oG (L W Bf : List (List Int)) (u v : Nat → SV) (x y : Nat → Body) (p s : Nat → SV) : List Body := [.log L, .rows K2 W, .cells [u 0, u 1, u 2, u 3], .cells [v 0, v 1, v 2, v 3], .rows K3 Bf, .cells [p 0, p 1, p 2, p 3], .cells [s 0, s 1, s 2, s 3], x 0, x 1, x 2, x 3, y 0, y 1, y 2, y 3]
abbrev pK : List Nat := [3, 5, 6, 7, 10, 14, 15, 16]
abbrev pV (i : Int) : List SV := [.ptr 0 0, .own 1, .ptr 2 0, .ptr 3 0, .own 4, .ptr 5 0, .ptr 6 0, .lit .i64 i]
abbrev pX (i k : Int) : List SV := [.ptr 0 0, .own 1, .ptr 2 0, .ptr 3 0, .own 4, .ptr 5 0, .ptr 6 0, .lit .i64 i, .int .i64 k]
abbrev nilV : SV := .raw (.slice none 0 0)
abbrev o15 : List Nat := [0, 1, 2, 3, 4, 5, 6, 7, 8, 9, 10, 11, 12, 13, 14]
/-- list i read as constant memory, for those before i -/
def uP (A : Nat → List (List Int)) (i j : Nat) : SV := sel i j (.ro 2 (A j).length (rowF K2 (A j))) (.own (7 + j))
def vP (R : Nat → List (List Int)) (i j : Nat) : SV := sel i j (.ro 3 (R j).length (rowF K3 (R j))) (.own (11 + j))
def pP (i j : Nat) : SV := sel i j (.own (7 + j)) nilV
def sP (i j : Nat) : SV := sel i j (.own (11 + j)) nilV
/-- chunk j: grown by G if below i -/
def xP (A G : Nat → List (List Int)) (i j : Nat) : Body := sel i j (.grow K2 (A j ++ G j)) (.rows K2 (A j))
def yP (A G : Nat → List (List Int)) (i j : Nat) : Body := sel i j (.grow K3 (A j ++ G j)) (.rows K3 (A j))
def atP (i j : Nat) (x : Body) (f : Nat → Body) : Body := match Nat.beq j i with | true => x | false => f j
noncomputable abbrev apC : Code := bodyAt Try.prog 8 37
noncomputable abbrev wpC : Code := bodyAt Try.prog 8 32
def gP (j : Nat) : List Int := [200 + (j : Int), 0]
def hP (j : Nat) : List Int := [0, 0, -11 - (j : Int)]
def GP (j : Nat) : List (List Int) := List.replicate 70 (gP j)
def HP (j : Nat) : List (List Int) := List.replicate 70 (hP j)
abbrev apI (i : Nat) : List Nat := o15.map fun j => match Nat.beq j (7 + i) with | true => 16 | false => match Nat.beq j (11 + i) with | true => 18 | false => j
abbrev tB (L W Bf a b : List (List Int)) (A R G H : Nat → List (List Int)) (i : Nat) : List Body := oG L W Bf (uP A (i + 1)) (vP R (i + 1)) (fun j => atP i j (.grow K2 a) (xP A G i)) (fun j => atP i j (.grow K3 b) (yP R H i)) (pP (i + 1)) (sP (i + 1))
abbrev stP (L W Bf : List (List Int)) (A R G H : Nat → List (List Int)) (i : Nat) : List Body := oG L W Bf (uP A i) (vP R i) (xP A G i) (yP R H i) (pP i) (sP i)
theorem ap_go (L W Bf a b : List (List Int)) (A R G H : Nat → List (List Int)) (k : Nat) : ∀ i : Nat, i < 4 → runC gw 300 266 [.br true] apC ((pK ++ [17]).zip (pX (i : Int) (k : Int))) (tB L W Bf a b A R G H i) (pK ++ [17]) (apI i) =
    some (.normal, pX (i : Int) ((k : Int) + 1), (tB L W Bf (a ++ [[200 + (i : Int), 0]]) (b ++ [[0, 0, -11 - (i : Int)]]) A R G H i).map some, [decide ((k : Int) < 70) = true, (a ++ [[200 + (i : Int), 0]]).length * 16 ≤ 140737488355328, (b ++ [[0, 0, -11 - (i : Int)]]).length * 24 ≤ 140737488355328, Fits .i64 ((k : Int) + 1)])
  | 0, _ => by kernel_rfl
  | 1, _ => by kernel_rfl
  | 2, _ => by kernel_rfl
  | 3, _ => by kernel_rfl
  | i + 4, h => absurd h (by omega)
theorem ap_end (L W Bf a b : List (List Int)) (A R G H : Nat → List (List Int)) (k : Nat) : ∀ i : Nat, i < 4 → runC gw 300 266 [.br false] apC ((pK ++ [17]).zip (pX (i : Int) (k : Int))) (tB L W Bf a b A R G H i) pK o15 =
    some (.exit 12, pV (i : Int), (tB L W Bf a b A R G H i).map some, [decide ((k : Int) < 70) = false])
  | 0, _ => by kernel_rfl
  | 1, _ => by kernel_rfl
  | 2, _ => by kernel_rfl
  | 3, _ => by kernel_rfl
  | i + 4, h => absurd h (by omega)
theorem wp_in (L W Bf : List (List Int)) (A R G H : Nat → List (List Int)) : ∀ i : Nat, i < 4 → runC gw 300 266 [] (takeSeq 1 wpC) (pK.zip (pV (i : Int))) (stP L W Bf A R G H i) pK o15 =
    some (.normal, pV (i : Int), (stP L W Bf A R G H i).map some, [])
  | 0, _ => by kernel_rfl
  | 1, _ => by kernel_rfl
  | 2, _ => by kernel_rfl
  | 3, _ => by kernel_rfl
  | i + 4, h => absurd h (by omega)
noncomputable abbrev bC : Code := match dropSeq 1 wpC with | .seq (.block _ c) _ => c | _ => .skip
noncomputable abbrev rC : Code := match dropSeq 1 wpC with | .seq _ c => c | _ => .skip
theorem wp_drop : dropSeq 1 wpC = .seq (.block 11 bC) rC := by kernel_rfl
abbrev mdP (L W Bf : List (List Int)) (A R G H : Nat → List (List Int)) (i : Nat) : List Body := oG L W Bf (uP A i) (vP R i) (xP A G i) (yP R H i) (pP (i + 1)) (sP (i + 1))
theorem b_in (L W Bf : List (List Int)) (A R G H : Nat → List (List Int)) : ∀ i : Nat, i < 4 → runC gw 300 266 [] (takeSeq 2 bC) (pK.zip (pV (i : Int))) (stP L W Bf A R G H i) pK o15 =
    some (.normal, pV (i : Int), (mdP L W Bf A R G H i).map some, [])
  | 0, _ => by kernel_rfl
  | 1, _ => by kernel_rfl
  | 2, _ => by kernel_rfl
  | 3, _ => by kernel_rfl
  | i + 4, h => absurd h (by omega)
theorem b_zero (L W Bf a b : List (List Int)) (A R G H : Nat → List (List Int)) : ∀ i : Nat, i < 4 → runC gw 300 266 [] (takeSeq 1 (dropSeq 2 bC)) (pK.zip (pV (i : Int))) (tB L W Bf a b A R G H i) (pK ++ [17]) o15 =
    some (.normal, pV (i : Int) ++ [SV.lit .i64 0], (tB L W Bf a b A R G H i).map some, [])
  | 0, _ => by kernel_rfl
  | 1, _ => by kernel_rfl
  | 2, _ => by kernel_rfl
  | 3, _ => by kernel_rfl
  | i + 4, h => absurd h (by omega)
theorem b_drop : dropSeq 1 (dropSeq 2 bC) = .block 12 (.loop apC) := by kernel_rfl
theorem r_next (B : List Body) : ∀ i : Nat, i < 4 → ∀ (L W Bf a b : List (List Int)) (A R G H : Nat → List (List Int)), runC gw 300 266 [] rC (pK.zip (pV (i : Int))) (tB L W Bf a b A R G H i) pK o15 =
    some (.normal, pV ((i : Int) + 1), (tB L W Bf a b A R G H i).map some, [])
  | 0, _, _, _, _, _, _, _, _, _, _ => by kernel_rfl
  | 1, _, _, _, _, _, _, _, _, _, _ => by kernel_rfl
  | 2, _, _, _, _, _, _, _, _, _, _ => by kernel_rfl
  | 3, _, _, _, _, _, _, _, _, _, _ => by kernel_rfl
  | i + 4, h, _, _, _, _, _, _, _, _, _ => absurd h (by omega)
theorem wp_end (L W Bf : List (List Int)) (A R G H : Nat → List (List Int)) : runC gw 300 266 [] wpC (pK.zip (pV 4)) (stP L W Bf A R G H 4) [3, 5, 6, 7, 10, 14, 15] o15 =
    some (.exit 10, [.ptr 0 0, .own 1, .ptr 2 0, .ptr 3 0, .own 4, .ptr 5 0, .ptr 6 0], (stP L W Bf A R G H 4).map some, []) := by kernel_rfl
end Go.Proofs.Ytkpkdingeomhnaa

namespace Go.Proofs.Ytkpkdingeomhnaa
open Go Go.Vx
/-! ### the appends, round by round -/
theorem apI_nd : ∀ i : Nat, i < 4 → (apI i).Nodup
  | 0, _ => by decide
  | 1, _ => by decide
  | 2, _ => by decide
  | 3, _ => by decide
  | i + 4, h => absurd h (by omega)
theorem pX_imp (i : Int) (t : Nat) : DenImp (tget (mkT ((pK ++ [17]).zip (pV i ++ [SV.lit .i64 0]))) t) (tget (mkT ((pK ++ [17]).zip (pX i ((0 : Nat) : Int)))) t) := by
  refine zip_rel (R := DenImp) (DenImp.refl _) (pK ++ [17]) (pV i ++ [SV.lit .i64 0]) (pX i ((0 : Nat) : Int)) (by decide) rfl (fun j c c' h1 h2 => ?_) t
  match j with
  | 0 | 1 | 2 | 3 | 4 | 5 | 6 | 7 => simp at h1 h2; subst h1; subst h2; exact DenImp.refl _
  | 8 => simp at h1 h2; subst h1; subst h2; exact norm_imp (.lit .i64 0)
  | j + 9 => simp at h1
theorem ap_loop (L W Bf a b : List (List Int)) (A R G H : Nat → List (List Int)) {i : Nat} (hi : i < 4) (ha : a.length ≤ 2000) (hb : b.length ≤ 2000) {w0 : World} {O : Vx.Own} (hG : GlobOk gw w0 O) :
    SimC gw.P w0 O 266 (.loop apC) ((pK ++ [17]).zip (pV (i : Int) ++ [SV.lit .i64 0])) (tB L W Bf a b A R G H i) (.exit 12) (pK.zip (pV (i : Int))) (tB L W Bf (a ++ GP i) (b ++ HP i) A R G H i) 0 := by
  refine SimC.pre ?_ (pX_imp (i : Int))
  have e0 : tB L W Bf a b A R G H i = tB L W Bf (a ++ List.replicate 0 (gP i)) (b ++ List.replicate 0 (hP i)) A R G H i := by simp
  rw [e0]
  refine SimC.iter (g := gw) (S := fun k => (pK ++ [17]).zip (pX (i : Int) (k : Int))) (B := fun k => tB L W Bf (a ++ List.replicate k (gP i)) (b ++ List.replicate k (hP i)) A R G H i) (N := 70) (e := .exit 12) (fun k hk => ?_) ?_ (by simp) 0 (Nat.zero_le _)
  · have h := ap_go L W Bf (a ++ List.replicate k (gP i)) (b ++ List.replicate k (hP i)) A R G H k i hi
    have e1 : a ++ List.replicate k (gP i) ++ [[200 + (i : Int), 0]] = a ++ List.replicate (k + 1) (gP i) := by rw [List.replicate_succ', List.append_assoc]; rfl
    have e2 : b ++ List.replicate k (hP i) ++ [[0, 0, -11 - (i : Int)]] = b ++ List.replicate (k + 1) (hP i) := by rw [List.replicate_succ', List.append_assoc]; rfl
    rw [e1, e2] at h
    refine SimC.run (ids := apI i) gw_ok (by decide) h ?_ (apI_nd i hi) (fun j hj => absurd hj (by omega)) (by decide) (by simp) hG
    simp only [allC_cons, allC_nil, and_true, List.length_append, List.length_replicate]
    exact ⟨decide_eq_true (by omega), by omega, by omega, fits_small (n := k + 1) (by omega)⟩
  · refine SimC.run (ids := o15) gw_ok (by decide) (ap_end L W Bf (a ++ List.replicate 70 (gP i)) (b ++ List.replicate 70 (hP i)) A R G H 70 i hi) ?_ (by decide) (fun j hj => absurd hj (by omega)) (by decide) (by simp) hG
    simp only [allC_cons, allC_nil, and_true]
    exact decide_eq_false (by omega)
section
variable {W0 : World} {OW : Vx.Own} {a : Act} {w : World} {S : List (Nat × SV)}
theorem wp_lend (L W Bf : List (List Int)) (A R G H : Nat → List (List Int)) : ∀ i : Nat, i < 4 → StG gw W0 OW 266 S (mdP L W Bf A R G H i) a w → StG gw W0 OW 266 S (tB L W Bf (A i) (R i) A R G H i) a w
  | 0, _, x => (x.lendAt (k := 7) (c := 2) (i := 0) (ks := K2) (l := A 0) (cs := [uP A 0 0, uP A 0 1, uP A 0 2, uP A 0 3]) rfl rfl rfl (by decide)).lendAt (k := 11) (c := 3) (i := 0) (ks := K3) (l := R 0) (cs := [vP R 0 0, vP R 0 1, vP R 0 2, vP R 0 3]) rfl rfl rfl (by decide)
  | 1, _, x => (x.lendAt (k := 8) (c := 2) (i := 1) (ks := K2) (l := A 1) (cs := [uP A 1 0, uP A 1 1, uP A 1 2, uP A 1 3]) rfl rfl rfl (by decide)).lendAt (k := 12) (c := 3) (i := 1) (ks := K3) (l := R 1) (cs := [vP R 1 0, vP R 1 1, vP R 1 2, vP R 1 3]) rfl rfl rfl (by decide)
  | 2, _, x => (x.lendAt (k := 9) (c := 2) (i := 2) (ks := K2) (l := A 2) (cs := [uP A 2 0, uP A 2 1, uP A 2 2, uP A 2 3]) rfl rfl rfl (by decide)).lendAt (k := 13) (c := 3) (i := 2) (ks := K3) (l := R 2) (cs := [vP R 2 0, vP R 2 1, vP R 2 2, vP R 2 3]) rfl rfl rfl (by decide)
  | 3, _, x => (x.lendAt (k := 10) (c := 2) (i := 3) (ks := K2) (l := A 3) (cs := [uP A 3 0, uP A 3 1, uP A 3 2, uP A 3 3]) rfl rfl rfl (by decide)).lendAt (k := 14) (c := 3) (i := 3) (ks := K3) (l := R 3) (cs := [vP R 3 0, vP R 3 1, vP R 3 2, vP R 3 3]) rfl rfl rfl (by decide)
  | i + 4, h, _ => absurd h (by omega)
end
theorem stP_next (L W Bf : List (List Int)) (A R G H : Nat → List (List Int)) : ∀ i : Nat, i < 4 → tB L W Bf (A i ++ G i) (R i ++ H i) A R G H i = stP L W Bf A R G H (i + 1)
  | 0, _ => rfl
  | 1, _ => rfl
  | 2, _ => rfl
  | 3, _ => rfl
  | i + 4, h => absurd h (by omega)
theorem wp_round (L W Bf : List (List Int)) (A R : Nat → List (List Int)) {i : Nat} (hi : i < 4) (ha : (A i).length ≤ 2000) (hb : (R i).length ≤ 2000) {W0 : World} {OW : Vx.Own} (a : Act) (w : World)
    (x : StG gw W0 OW 266 (pK.zip (pV (i : Int))) (stP L W Bf A R GP HP i) a w) (Q : Exit → Act → World → Prop)
    (hQ : ∀ a' w', StG gw W0 OW 266 (pK.zip (pV ((i + 1 : Nat) : Int))) (stP L W Bf A R GP HP (i + 1)) a' w' → Q .normal a' w') : wpC.wp gw.P Q a w := by
  refine x.cut (k := 1) gw_ok (by decide) (wp_in L W Bf A R GP HP i hi) (fun p hp => by cases hp) (by decide) (by decide) (by simp) fun a1 w1 x1 => ?_
  rw [wp_drop]
  refine wp_seq (wp_block ?_)
  refine x1.cut (k := 2) gw_ok (by decide) (b_in L W Bf A R GP HP i hi) (fun p hp => by cases hp) (by decide) (by decide) (by simp) fun a2 w2 x2 => ?_
  have x3 := wp_lend L W Bf A R GP HP i hi x2
  refine x3.cut (k := 1) gw_ok (by decide) (b_zero L W Bf (A i) (R i) A R GP HP i hi) (fun p hp => by cases hp) (by decide) (by decide) (by simp) fun a4 w4 x4 => ?_
  rw [b_drop]
  refine wpL_wp (StG.of (fun w0 O hG => SimC.block (ap_loop L W Bf (A i) (R i) A R GP HP hi ha hb hG) (.inl ⟨rfl, rfl⟩)) x4 fun a5 w5 x5 => ?_)
  show rC.wp gw.P Q a5 w5
  refine x5.run gw_ok (by decide) (r_next [] i hi L W Bf (A i ++ GP i) (R i ++ HP i) A R GP HP) (fun p hp => by cases hp) (by decide) (by decide) (by simp) fun a6 w6 x6 => ?_
  rw [stP_next L W Bf A R GP HP i hi] at x6
  exact hQ a6 w6 x6
theorem wp_all (L W Bf : List (List Int)) (A R : Nat → List (List Int)) (ha : ∀ i, (A i).length ≤ 2000) (hb : ∀ i, (R i).length ≤ 2000) {W0 : World} {OW : Vx.Own} (a : Act) (w : World)
    (x : StG gw W0 OW 266 (pK.zip (pV 0)) (stP L W Bf A R GP HP 0) a w) (Q : Exit → Act → World → Prop)
    (hQ : ∀ a' w', StG gw W0 OW 266 ([3, 5, 6, 7, 10, 14, 15].zip [.ptr 0 0, .own 1, .ptr 2 0, .ptr 3 0, .own 4, .ptr 5 0, .ptr 6 0]) (stP L W Bf A R GP HP 4) a' w' → Q (.exit 10) a' w') : (Code.loop wpC).wp gw.P Q a w :=
  StG.iter (S := fun i => pK.zip (pV (i : Int))) (B := stP L W Bf A R GP HP) (N := 4) (fun i hi a w x Q' hQ' => wp_round L W Bf A R hi (ha i) (hb i) a w x Q' hQ')
    (fun a w x => x.run gw_ok (by decide) (wp_end L W Bf A R GP HP) (fun p hp => by cases hp) (by decide) (by decide) (by simp) fun a' w' x' => hQ a' w' x') 0 (by omega) a w x
end Go.Proofs.Ytkpkdingeomhnaa

namespace Go.Proofs.Ytkpkdingeomhnaa
open Go Go.Vx
/-! ### the checks -/
abbrev oC (L W Bf : List (List Int)) (A R X Y : Nat → List (List Int)) : List Body := oG L W Bf (fun j => .ro 2 (A j).length (rowF K2 (A j))) (fun j => .ro 3 (R j).length (rowF K3 (R j))) (fun j => .grow K2 (X j)) (fun j => .grow K3 (Y j)) (fun j => .own (7 + j)) (fun j => .own (11 + j))
abbrev qK : List Nat := [3, 5, 6, 7, 10, 14, 15, 18]
abbrev qV (i : Int) : List SV := [.ptr 0 0, .own 1, .ptr 2 0, .ptr 3 0, .own 4, .ptr 5 0, .ptr 6 0, .lit .i64 i]
abbrev qX (i n k : Int) : List SV := [.ptr 0 0, .own 1, .ptr 2 0, .ptr 3 0, .own 4, .ptr 5 0, .ptr 6 0, .lit .i64 i, .int .i64 n, .int .i64 k]
noncomputable abbrev clC : Code := bodyAt Try.prog 8 46
noncomputable abbrev crC : Code := bodyAt Try.prog 8 55
noncomputable abbrev cwC : Code := bodyAt Try.prog 8 42
theorem cl_lo (L W Bf : List (List Int)) (A R X Y : Nat → List (List Int)) (n k : Nat) : ∀ i : Nat, i < 4 → runC gw 300 266 [.br true, .br false, .br false, .br true, .br false] clC ((qK ++ [19, 20]).zip (qX (i : Int) (n : Int) (k : Int))) (oC L W Bf A R X Y) (qK ++ [19, 20]) o15 =
    some (.normal, qX (i : Int) (n : Int) ((k : Int) + 1), (oC L W Bf A R X Y).map some, [Fits .i64 ((X i).length : Int), decide ((k : Int) < ((X i).length : Int)) = true, decide ((n : Int) ≤ (k : Int)) = false, (0 : Int) ≤ (k : Int) ∧ (k : Int) < ((A i).length : Int), decide ((k : Int) < (n : Int)) = true, (!decide ([((X i).getD k []).getD 0 (0 : Int), ((X i).getD k []).getD 1 (0 : Int)] = [100 + (i : Int), (k : Int)])) = false, k < (X i).length, k < (X i).length, (0 : Int) ≤ (k : Int) ∧ (k : Int) < ((X i).length : Int), (!decide ([((A i).getD k []).getD 0 (0 : Int), ((A i).getD k []).getD 1 (0 : Int)] = [100 + (i : Int), (k : Int)])) = false, Fits .i64 ((k : Int) + 1)])
  | 0, _ => by kernel_rfl
  | 1, _ => by kernel_rfl
  | 2, _ => by kernel_rfl
  | 3, _ => by kernel_rfl
  | i + 4, h => absurd h (by omega)
theorem cl_hi (L W Bf : List (List Int)) (A R X Y : Nat → List (List Int)) (n k : Nat) : ∀ i : Nat, i < 4 → runC gw 300 266 [.br true, .br true, .br false, .br false] clC ((qK ++ [19, 20]).zip (qX (i : Int) (n : Int) (k : Int))) (oC L W Bf A R X Y) (qK ++ [19, 20]) o15 =
    some (.normal, qX (i : Int) (n : Int) ((k : Int) + 1), (oC L W Bf A R X Y).map some, [Fits .i64 ((X i).length : Int), decide ((k : Int) < ((X i).length : Int)) = true, decide ((n : Int) ≤ (k : Int)) = true, decide ((k : Int) < (n : Int)) = false, (!decide ([((X i).getD k []).getD 0 (0 : Int), ((X i).getD k []).getD 1 (0 : Int)] = [200 + (i : Int), 0])) = false, k < (X i).length, k < (X i).length, (0 : Int) ≤ (k : Int) ∧ (k : Int) < ((X i).length : Int), Fits .i64 ((k : Int) + 1)])
  | 0, _ => by kernel_rfl
  | 1, _ => by kernel_rfl
  | 2, _ => by kernel_rfl
  | 3, _ => by kernel_rfl
  | i + 4, h => absurd h (by omega)
theorem cl_end (L W Bf : List (List Int)) (A R X Y : Nat → List (List Int)) (n k : Nat) : ∀ i : Nat, i < 4 → runC gw 300 266 [.br false] clC ((qK ++ [19, 20]).zip (qX (i : Int) (n : Int) (k : Int))) (oC L W Bf A R X Y) qK o15 =
    some (.exit 16, qV (i : Int), (oC L W Bf A R X Y).map some, [Fits .i64 ((X i).length : Int), decide ((k : Int) < ((X i).length : Int)) = false])
  | 0, _ => by kernel_rfl
  | 1, _ => by kernel_rfl
  | 2, _ => by kernel_rfl
  | 3, _ => by kernel_rfl
  | i + 4, h => absurd h (by omega)
theorem cr_lo (L W Bf : List (List Int)) (A R X Y : Nat → List (List Int)) (n k : Nat) : ∀ i : Nat, i < 4 → runC gw 300 266 [.br true, .br false, .br false, .br true, .br false] crC ((qK ++ [19, 22]).zip (qX (i : Int) (n : Int) (k : Int))) (oC L W Bf A R X Y) (qK ++ [19, 22]) o15 =
    some (.normal, qX (i : Int) (n : Int) ((k : Int) + 1), (oC L W Bf A R X Y).map some, [Fits .i64 ((Y i).length : Int), decide ((k : Int) < ((Y i).length : Int)) = true, decide ((n : Int) ≤ (k : Int)) = false, (0 : Int) ≤ (k : Int) ∧ (k : Int) < ((R i).length : Int), decide ((k : Int) < (n : Int)) = true, (!decide ([((Y i).getD k []).getD 0 (0 : Int), ((Y i).getD k []).getD 1 (0 : Int), ((Y i).getD k []).getD 2 (0 : Int)] = [0, 0, -1 - (i : Int)])) = false, k < (Y i).length, k < (Y i).length, k < (Y i).length, (0 : Int) ≤ (k : Int) ∧ (k : Int) < ((Y i).length : Int), (!decide ([((R i).getD k []).getD 0 (0 : Int), ((R i).getD k []).getD 1 (0 : Int), ((R i).getD k []).getD 2 (0 : Int)] = [0, 0, -1 - (i : Int)])) = false, Fits .i64 ((k : Int) + 1)])
  | 0, _ => by kernel_rfl
  | 1, _ => by kernel_rfl
  | 2, _ => by kernel_rfl
  | 3, _ => by kernel_rfl
  | i + 4, h => absurd h (by omega)
theorem cr_hi (L W Bf : List (List Int)) (A R X Y : Nat → List (List Int)) (n k : Nat) : ∀ i : Nat, i < 4 → runC gw 300 266 [.br true, .br true, .br false, .br false] crC ((qK ++ [19, 22]).zip (qX (i : Int) (n : Int) (k : Int))) (oC L W Bf A R X Y) (qK ++ [19, 22]) o15 =
    some (.normal, qX (i : Int) (n : Int) ((k : Int) + 1), (oC L W Bf A R X Y).map some, [Fits .i64 ((Y i).length : Int), decide ((k : Int) < ((Y i).length : Int)) = true, decide ((n : Int) ≤ (k : Int)) = true, decide ((k : Int) < (n : Int)) = false, (!decide ([((Y i).getD k []).getD 0 (0 : Int), ((Y i).getD k []).getD 1 (0 : Int), ((Y i).getD k []).getD 2 (0 : Int)] = [0, 0, -11 - (i : Int)])) = false, k < (Y i).length, k < (Y i).length, k < (Y i).length, (0 : Int) ≤ (k : Int) ∧ (k : Int) < ((Y i).length : Int), Fits .i64 ((k : Int) + 1)])
  | 0, _ => by kernel_rfl
  | 1, _ => by kernel_rfl
  | 2, _ => by kernel_rfl
  | 3, _ => by kernel_rfl
  | i + 4, h => absurd h (by omega)
theorem cr_end (L W Bf : List (List Int)) (A R X Y : Nat → List (List Int)) (n k : Nat) : ∀ i : Nat, i < 4 → runC gw 300 266 [.br false] crC ((qK ++ [19, 22]).zip (qX (i : Int) (n : Int) (k : Int))) (oC L W Bf A R X Y) qK o15 =
    some (.exit 18, qV (i : Int), (oC L W Bf A R X Y).map some, [Fits .i64 ((Y i).length : Int), decide ((k : Int) < ((Y i).length : Int)) = false])
  | 0, _ => by kernel_rfl
  | 1, _ => by kernel_rfl
  | 2, _ => by kernel_rfl
  | 3, _ => by kernel_rfl
  | i + 4, h => absurd h (by omega)
end Go.Proofs.Ytkpkdingeomhnaa
