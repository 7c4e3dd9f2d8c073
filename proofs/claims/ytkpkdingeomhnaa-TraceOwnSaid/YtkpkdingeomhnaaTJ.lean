/- Accounts of this seat's functions: lemmas, no statement of their own. No conditions. -/
import Derived.Test.YtkpkdingeomhnaaTG
import Derived.Test.YtkpkdingeomhnaaV4
namespace Go.Proofs.Ytkpkdingeomhnaa
open Go Go.Vx

/-! ### Runs -/
noncomputable def ruParts : RParts := rparts Try.f21.body
abbrev ru0 (n : Int) (l : List (List Int)) : List Body := [.cells [.int .i64 n, .own 1], .rows [.i64, .i64] l, .cells [.ptr 0 0], .cells [.lit .i64 0], .cells [.raw (.slice none 0 0)]]
abbrev ruO (n : Int) (l o : List (List Int)) : List Body := [.cells [.int .i64 n, .own 1], .rows [.i64, .i64] l, .cells [.ptr 0 0], .cells [.lit .i64 0], .cells [.own 5], .rows [.i64, .i64, .i64] o]
theorem ru_pre (n : Int) (l : List (List Int)) : runP gx 60 38 [] ruParts.c0 ruParts.c1 ruParts.c2 [.ptr 0 0] [.cells [.int .i64 n, .own 1], .rows [.i64, .i64] l] [3, 7] [0, 1, 3, 4, 2] =
    some ([SV.ptr (4 : Nat) (0 : Nat), SV.func (38 : Nat) [] [SV.ptr (2 : Nat) (0 : Nat), SV.ptr (3 : Nat) (0 : Nat)]], [some (Body.cells [SV.int IntKind.i64 n, SV.own (1 : Nat)]), some (Body.rows [IntKind.i64, IntKind.i64] l), some (Body.cells [SV.ptr (0 : Nat) (0 : Nat)]), some (Body.cells [SV.lit IntKind.i64 (0 : Int)]), some (Body.cells [SV.raw (Value.slice none (0 : Nat) (0 : Nat))])], []) := by kernel_rfl
theorem ru_first (n : Int) (l : List (List Int)) (a b : Int) : runR gx 60 38 [] [] ruParts.A ruParts.Bd [(8, .agg [.int .i64 a, .int .i64 b]), (3, .ptr 4 0)] (ru0 n l) [0, 1, 2, 3, 4, 7] =
    some ([some (Body.cells [SV.int IntKind.i64 n, SV.own (1 : Nat)]), some (Body.rows [IntKind.i64, IntKind.i64] l), some (Body.cells [SV.ptr (0 : Nat) (0 : Nat)]), some (Body.cells [SV.lit IntKind.i64 (0 : Int)]), some (Body.cells [SV.own (5 : Nat)]), some (Body.rows [IntKind.i64, IntKind.i64, IntKind.i64] [[a, b, (1 : Int)]])], [([] ++ [[a, b, (1 : Int)]]).length * (24 : Nat) ≤ (140737488355328 : Nat)]) := by kernel_rfl
theorem ru_same (n : Int) (l o : List (List Int)) (a b : Int) : runR gx 60 38 [] [.br true, .br true] ruParts.A ruParts.Bd [(8, .agg [.int .i64 a, .int .i64 b]), (3, .ptr 4 0)] (ruO n l o) [0, 1, 2, 3, 4, 5] =
    some ([some (Body.cells [SV.int IntKind.i64 n, SV.own (1 : Nat)]), some (Body.rows [IntKind.i64, IntKind.i64] l), some (Body.cells [SV.ptr (0 : Nat) (0 : Nat)]), some (Body.cells [SV.lit IntKind.i64 (0 : Int)]), some (Body.cells [SV.own (5 : Nat)]), some (Body.rows [IntKind.i64, IntKind.i64, IntKind.i64] (o.set ((↑o.length : Int) - (1 : Int)).toNat ((o.getD ((↑o.length : Int) - (1 : Int)).toNat []).set (2 : Nat) ((o.getD ((↑o.length : Int) - (1 : Int)).toNat []).getD (2 : Nat) (0 : Int) + (1 : Int)))))], [Fits IntKind.i64 (↑o.length : Int), ((↑o.length : Int) - (1 : Int)).toNat < o.length, ((↑o.length : Int) - (1 : Int)).toNat < o.length, (0 : Int) ≤ (↑o.length : Int) - (1 : Int) ∧ (↑o.length : Int) - (1 : Int) < (↑(ecount (Body.rows [IntKind.i64, IntKind.i64, IntKind.i64] o)) : Int), Fits IntKind.i64 ((↑o.length : Int) - (1 : Int)), decide ((0 : Int) < (↑o.length : Int)) = true, decide ([(o.getD ((↑o.length : Int) - (1 : Int)).toNat []).getD ((0 : Nat) + (0 : Nat) + (0 : Nat)) (0 : Int), (o.getD ((↑o.length : Int) - (1 : Int)).toNat []).getD ((0 : Nat) + (0 : Nat) + ((0 : Nat) + (1 : Nat))) (0 : Int)] = [a, b]) = true, ((↑o.length : Int) - (1 : Int)).toNat < o.length, (0 : Int) ≤ (↑o.length : Int) - (1 : Int) ∧ (↑o.length : Int) - (1 : Int) < (↑(ecount (Body.rows [IntKind.i64, IntKind.i64, IntKind.i64] o)) : Int), Fits IntKind.i64 ((o.getD ((↑o.length : Int) - (1 : Int)).toNat []).getD (2 : Nat) (0 : Int) + (1 : Int)), ((↑o.length : Int) - (1 : Int)).toNat < o.length, (0 : Int) ≤ (↑o.length : Int) - (1 : Int) ∧ (↑o.length : Int) - (1 : Int) < (↑(ecount (Body.rows [IntKind.i64, IntKind.i64, IntKind.i64] o)) : Int), Fits IntKind.i64 ((↑o.length : Int) - (1 : Int))]) := by kernel_rfl
theorem ru_next (n : Int) (l o : List (List Int)) (a b : Int) : runR gx 60 38 [] [.br true, .br false] ruParts.A ruParts.Bd [(8, .agg [.int .i64 a, .int .i64 b]), (3, .ptr 4 0)] (ruO n l o) [0, 1, 2, 3, 4, 8] =
    some ([some (Body.cells [SV.int IntKind.i64 n, SV.own (1 : Nat)]), some (Body.rows [IntKind.i64, IntKind.i64] l), some (Body.cells [SV.ptr (0 : Nat) (0 : Nat)]), some (Body.cells [SV.lit IntKind.i64 (0 : Int)]), some (Body.cells [SV.own (5 : Nat)]), some (Body.rows [IntKind.i64, IntKind.i64, IntKind.i64] (o ++ [[a, b, (1 : Int)]]))], [Fits IntKind.i64 (↑o.length : Int), ((↑o.length : Int) - (1 : Int)).toNat < o.length, ((↑o.length : Int) - (1 : Int)).toNat < o.length, (0 : Int) ≤ (↑o.length : Int) - (1 : Int) ∧ (↑o.length : Int) - (1 : Int) < (↑(ecount (Body.rows [IntKind.i64, IntKind.i64, IntKind.i64] o)) : Int), Fits IntKind.i64 ((↑o.length : Int) - (1 : Int)), decide ((0 : Int) < (↑o.length : Int)) = true, decide ([(o.getD ((↑o.length : Int) - (1 : Int)).toNat []).getD ((0 : Nat) + (0 : Nat) + (0 : Nat)) (0 : Int), (o.getD ((↑o.length : Int) - (1 : Int)).toNat []).getD ((0 : Nat) + (0 : Nat) + ((0 : Nat) + (1 : Nat))) (0 : Int)] = [a, b]) = false, (o ++ [[a, b, (1 : Int)]]).length * (24 : Nat) ≤ (140737488355328 : Nat)]) := by kernel_rfl
theorem ru_post0 (n : Int) (l : List (List Int)) : runE gx 60 38 ruParts.i ruParts.ops [(3, .ptr 4 0)] (ru0 n l) 2 [0, 1] =
    some (SV.raw (Value.slice none (0 : Nat) (0 : Nat)), [some (Body.cells [SV.int IntKind.i64 n, SV.own (1 : Nat)]), some (Body.rows [IntKind.i64, IntKind.i64] l)], []) := by kernel_rfl
theorem ru_post (n : Int) (l o : List (List Int)) : runE gx 60 38 ruParts.i ruParts.ops [(3, .ptr 4 0)] (ruO n l o) 2 [0, 1, 5] =
    some (SV.own (2 : Nat), [some (Body.cells [SV.int IntKind.i64 n, SV.own (1 : Nat)]), some (Body.rows [IntKind.i64, IntKind.i64] l), some (Body.rows [IntKind.i64, IntKind.i64, IntKind.i64] o)], []) := by kernel_rfl
end Go.Proofs.Ytkpkdingeomhnaa

namespace Go.Proofs.Ytkpkdingeomhnaa
open Go Go.Vx

theorem runsN_app (l m : List (List Int)) : ∀ n, n ≤ l.length → runsN (l ++ m) n = runsN l n
  | 0, _ => rfl
  | n + 1, h => by
    have e : (l ++ m).getD n [] = l.getD n [] := by rw [List.getD_eq_getElem?_getD, List.getElem?_append_left (by omega), ← List.getD_eq_getElem?_getD]
    simp only [runsN, runsN_app l m n (by omega), e]
theorem runsL_snoc (l : List (List Int)) (x : List Int) : runsL (l ++ [x]) = runStep (runsL l) (x.getD 0 0) (x.getD 1 0) := by
  unfold runsL
  rw [show (l ++ [x]).length = l.length + 1 by simp]
  simp only [runsN, runsN_app l [x] l.length (Nat.le_refl _)]
  simp
theorem runsL_ok (l : List (List Int)) : RunsOk (runsL l) l.length := runsN_ok l _
theorem runStep_pos {o : List (List Int)} (a b : Int) : 0 < (runStep o a b).length := by
  unfold runStep
  split
  · rename_i h; simp; exact h.1
  · simp
theorem runsL_pos {l : List (List Int)} (h : l ≠ []) : 0 < (runsL l).length := by
  rcases List.eq_nil_or_concat l with e | ⟨p, x, e⟩
  · exact absurd e h
  · rw [e, List.concat_eq_append, runsL_snoc]; exact runStep_pos _ _

def ruB (n : Int) (l : List (List Int)) : List (List Int) → List Body
  | [] => ru0 n l
  | x :: r => ruO n l (runsL (x :: r))
theorem ruB_pos {n : Int} {l p : List (List Int)} (h : p ≠ []) : ruB n l p = ruO n l (runsL p) := by
  cases p with
  | nil => exact absurd rfl h
  | cons x r => rfl
theorem ruB_low {n : Int} {l p : List (List Int)} : LogH n l (BH (ruB n l p)) := by
  cases p <;> exact ⟨rfl, rfl, rfl, rfl⟩
theorem ids5 {k : Nat} : ∀ j : Nat, j < 5 → ([0, 1, 2, 3, 4, k] : List Nat)[j]? = some j := fun j hj => by
  match j, hj with
  | 0, _ => rfl
  | 1, _ => rfl
  | 2, _ => rfl
  | 3, _ => rfl
  | 4, _ => rfl
theorem ru_round {n : Int} {l : List (List Int)} (hl : l.length * 24 ≤ 140737488355328) (hrow : ∀ r ∈ l, r.length = 2) (pre : List (List Int)) (x : List Int) (rest : List (List Int)) (hx : l = pre ++ x :: rest) :
    RoundOk gx 38 ruParts.A ruParts.Bd ((8, Vx.evS x) :: [(3, .ptr 4 0)]) (ruB n l pre) (ruB n l (pre ++ [x])) 5 := by
  have hpl : plainC ruParts.A = true ∧ plainC ruParts.Bd = true := by constructor <;> kernel_rfl
  obtain ⟨a, b, rfl⟩ : ∃ a b, x = [a, b] := by
    have := hrow x (by rw [hx]; simp)
    match x, this with
    | [a, b], _ => exact ⟨a, b, rfl⟩
  have hlen : pre.length + 1 ≤ l.length := by rw [hx]; simp
  rw [ruB_pos (p := pre ++ [[a, b]]) (by simp), runsL_snoc]
  cases pre with
  | nil =>
    refine RoundOk.run (ids := [0, 1, 2, 3, 4, 7]) gx_ok hpl.1 hpl.2 (by decide) (by simp [ruB]) (ru_first n l a b) ?_ (by decide) (fun j hj => ids5 j hj)
    simp only [allC_cons, allC_nil, and_true]
    show 1 * 24 ≤ 140737488355328
    decide
  | cons y r =>
    rw [ruB_pos (p := y :: r) (by simp)]
    have ok := runsL_ok (y :: r)
    have hpos := runsL_pos (l := y :: r) (by simp)
    generalize runsL (y :: r) = o at ok hpos ⊢
    have hol := ok.len
    have hq : ((o.length : Int) - 1).toNat = o.length - 1 := by omega
    have F1 : Fits .i64 (o.length : Int) := fits_small (by omega)
    have F3 : Fits .i64 ((o.length : Int) - 1) := fits_of (by omega) (by omega)
    have hm : lastR o ∈ o := by
      unfold lastR
      rw [List.getD_eq_getElem?_getD, List.getElem?_eq_getElem (show o.length - 1 < o.length by omega)]
      exact List.getElem_mem _
    have hp := ok.pos _ hm
    have F5 : Fits .i64 ((lastR o).getD 2 0 + 1) := fits_of (by omega) (by omega)
    have ec : (ecount (Body.rows [IntKind.i64, IntKind.i64, IntKind.i64] o) : Nat) = o.length := rfl
    by_cases c : [(lastR o).getD 0 0, (lastR o).getD 1 0] = [a, b]
    · have hk := decide_eq_true c
      have e2 : runStep o a b = o.set (o.length - 1) ((lastR o).set 2 ((lastR o).getD 2 0 + 1)) := by unfold runStep; simp at c; rw [if_pos ⟨hpos, by simpa using c⟩]
      have e3 : runStep o (([a, b] : List Int).getD 0 0) (([a, b] : List Int).getD 1 0) = runStep o a b := rfl
      rw [e3, e2]
      refine RoundOk.run (ids := [0, 1, 2, 3, 4, 5]) gx_ok hpl.1 hpl.2 (by decide) (by simp) (by have := ru_same n l o a b; rw [hq] at this; exact this) ?_ (by decide) (fun j hj => ids5 j hj)
      simp only [allC_cons, allC_nil, and_true, ec]
      (repeat' (first | exact F1 | exact F3 | exact F5 | exact hk | exact decide_eq_true (by omega) | omega | refine And.intro ?_ ?_))
    · have hk := decide_eq_false c
      have e2 : runStep o a b = o ++ [[a, b, 1]] := by unfold runStep; simp at c; rw [if_neg fun h => c h.2.1 h.2.2]
      have e3 : runStep o (([a, b] : List Int).getD 0 0) (([a, b] : List Int).getD 1 0) = runStep o a b := rfl
      rw [e3, e2]
      refine RoundOk.run (ids := [0, 1, 2, 3, 4, 8]) gx_ok hpl.1 hpl.2 (by decide) (by simp) (by have := ru_next n l o a b; rw [hq] at this; exact this) ?_ (by decide) (fun j hj => ids5 j hj)
      simp only [allC_cons, allC_nil, and_true, ec]
      (repeat' (first | exact F1 | exact F3 | exact F5 | exact hk | exact decide_eq_true (by omega) | omega | (rw [show (o ++ [[a, b, (1 : Int)]]).length = o.length + 1 by simp]; omega) | refine And.intro ?_ ?_))

theorem ru_fn {l : List (List Int)} (hl : l.length * 24 ≤ 140737488355328) {out : OpOut} {L : List (Option Body)} {ids2 : List Nat}
    (hpost : runE gx 60 38 ruParts.i ruParts.ops [(3, .ptr 4 0)] (ruB l.length l l) 2 ids2 = some (out.val, L, [])) (hnd2 : ids2.Nodup) (hm2 : ∀ j, j < 2 → ids2[j]? = some j) (hl2 : ids2.length = 2 + out.new.length)
    (hL : ∀ j, j < 2 + out.new.length → (L[j]?).getD none = afterH [.cells [.int .i64 l.length, .own 1], .rows [.i64, .i64] l] out j) (hu : ∀ y ∈ out.upd, y.1 < 2) :
    FnOk gx 21 [.ptr 0 0] [.cells [.int .i64 l.length, .own 1], .rows [.i64, .i64] l] out := by
  refine FnOk.factsB fun hfc => ?_
  have hrow := hfc (.rows [.i64, .i64] l) (by simp)
  have hrow2 : ∀ r ∈ l, r.length = 2 := fun r hr => (hrow r hr).1
  have hfitl : Fits .i64 (l.length : Int) := (hfc (.cells [.int .i64 l.length, .own 1]) (by simp)).1
  refine rangeFn_ok (α := List Int) gx_ok (fn := Try.f21) Try.func21 (by kernel_rfl) (k := ruParts.k) (gop := .tmp 7) (p := 8) (c0 := ruParts.c0) (c1 := ruParts.c1) (c2 := ruParts.c2) (A := ruParts.A) (Bd := ruParts.Bd) (i := ruParts.i) (ops := ruParts.ops) (t := 2) (by kernel_rfl) (by decide) (by kernel_rfl) (by decide) (args := [.ptr 0 0]) (B := [.cells [.int .i64 l.length, .own 1], .rows [.i64, .i64] l]) (by decide) (by simp)
    (ru_pre _ l) (by simp [AllC]) (by decide) (m := 5) ?_ (by simp) ?_ (gf := 38) (enc := evV) (encS := Vx.evS) (xs := l) (Bs := ruB l.length l) (S := [(3, .ptr 4 0)]) (fun t => ?_) (fun pre x rest hx => ru_round hl hrow2 pre x rest hx) ?_ ?_ (enters_of Try.func38 (by kernel_rfl) rfl) ?_ ?_ hpost (by simp [AllC]) hnd2 hm2 hl2 hL hu
  · intro j _ hj
    match j, hj with
    | 0, _ => rfl
    | 1, _ => rfl
    | j + 2, hj => exact absurd hj (by simp)
  · intro k hk; simp at hk; rcases hk with rfl | rfl <;> decide
  · by_cases h3 : t = 3
    · subst h3; left; rfl
    · right
      have e : tget (mkT [(3, SV.ptr 4 0)]) t = if t = 3 then .ptr 4 0 else tget (mkT []) t := Tr.get_set _ _ _ _ _ (by decide)
      rw [e, if_neg h3]; simp [tget, mkT, Tr.get_lf]
  · intro x hx w0 O ρ
    obtain ⟨h2, hk⟩ := hrow x hx
    obtain ⟨a, b, rfl⟩ : ∃ a b, x = [a, b] := by
      match x, h2 with
      | [a, b], _ => exact ⟨a, b, rfl⟩
    have ha := hk 0 .i64 a rfl rfl
    have hb := hk 1 .i64 b rfl rfl
    refine .inr ⟨rfl, ?_⟩
    simp only [Vx.evS, evV, DenC, DenL]
    exact ⟨_, _, rfl, ⟨rfl, ha⟩, rfl, _, _, rfl, ⟨rfl, hb⟩, rfl, rfl⟩
  · intro y hy; simp at hy; subst hy; exact ⟨by decide, by simp [mapC, lowId]⟩
  · intro w0 O hG ρ Φ a w r
    have t9 := r.tmps 7
    rw [show tget (mkT (([3, 7] : List Nat).zip [SV.ptr 4 0, .func 38 [] [.ptr 2 0, .ptr 3 0]])) 7 = .func 38 [] [.ptr 2 0, .ptr 3 0] from rfl] at t9
    obtain ⟨lb, e1, K, hK, hit⟩ := since_K since_ok hrow2 hfitl (n := l.length) ruB_low r.heap t9
    exact ⟨lb, e1, K, fun pre ρ' Φ' W hlow x => hK ρ' _ Φ' W (fun j h hj => hlow j h (by omega)) ruB_low x, hit⟩
  · cases l <;> simp [ruB]
theorem runs_acc (l : List (List Int)) (hl : l.length * 24 ≤ 140737488355328) : FnOk gx 21 [.ptr 0 0] [.log l] { val := .own 1, new := [.rows [.i64, .i64, .i64] (runsL l)], C := [l.length * 24 ≤ 140737488355328] } := by
  by_cases h : l = []
  · subst h
    refine FnOk.adopt rfl (by simp) (FnOk.logRead (ru_fn hl (out := { val := .raw (.slice none 0 0) }) (ru_post0 _ _) (by decide) ?_ rfl ?_ (by simp)) (by simp [mapC]))
    · intro j hj
      match j, hj with
      | 0, _ => rfl
      | 1, _ => rfl
    · intro j hj
      match j, hj with
      | 0, _ => rfl
      | 1, _ => rfl
      | j + 2, hj => exact absurd hj (by simp)
  · refine FnOk.logRows (ru_fn hl (out := { val := .own 2, new := [.rows [.i64, .i64, .i64] (runsL l)] }) (by rw [ruB_pos h]; exact ru_post _ _ _) (by decide) ?_ rfl ?_ (by simp))
    · intro j hj
      match j, hj with
      | 0, _ => rfl
      | 1, _ => rfl
    · intro j hj
      match j, hj with
      | 0, _ => rfl
      | 1, _ => rfl
      | 2, _ => rfl
      | j + 3, hj => exact absurd hj (by simp)
end Go.Proofs.Ytkpkdingeomhnaa

namespace Go.Proofs.Ytkpkdingeomhnaa
open Go Go.Vx

/-! ### gone -/
abbrev goKeep : List Nat := [0, 4, 5]
noncomputable abbrev goBody : Code := bodyAt Try.prog 38 3
abbrev goS (i : Nat) : List (Nat × SV) := goKeep.zip [.func 39 [] [.ptr 0 0], .own 1, .int .i64 (i : Int)]
theorem go_first (i : Nat) (l : List (List Int)) : runC gx 200 27 [.br true, .br false] goBody (goS i) [.cells [.raw (.slice none 0 0)], .rows [.i64, .i64] l] goKeep [0, 1, 4] =
    some (Ex.normal, [SV.func (39 : Nat) [] [SV.ptr (0 : Nat) (0 : Nat)], SV.own (1 : Nat), SV.int IntKind.i64 ((↑i : Int) + (1 : Int))], [some (Body.cells [SV.own (2 : Nat)]), some (Body.rows [IntKind.i64, IntKind.i64] l), some (Body.rows [IntKind.i64, IntKind.i64] [[(l.getD i []).getD (0 : Nat) (0 : Int), (l.getD i []).getD (1 : Nat) (0 : Int)]])], [Fits IntKind.i64 (↑l.length : Int), decide ((↑i : Int) < (↑l.length : Int)) = true, ([] ++ [[(l.getD i []).getD (0 : Nat) (0 : Int), (l.getD i []).getD (1 : Nat) (0 : Int)]]).length * (16 : Nat) ≤ (140737488355328 : Nat), Fits IntKind.i64 (↑([] ++ [[(l.getD i []).getD (0 : Nat) (0 : Int), (l.getD i []).getD (1 : Nat) (0 : Int)]]).length : Int), i < l.length, i < l.length, (0 : Int) ≤ (↑i : Int) ∧ (↑i : Int) < (↑(ecount (Body.rows [IntKind.i64, IntKind.i64] l)) : Int), (!decide ((↑([] ++ [[(l.getD (↑i : Int).toNat []).getD ((0 : Nat) + (0 : Nat)) (0 : Int), (l.getD (↑i : Int).toNat []).getD ((0 : Nat) + ((0 : Nat) + (1 : Nat))) (0 : Int)]]).length : Int) ≤ (2000 : Int))) = false, Fits IntKind.i64 ((↑i : Int) + (1 : Int))]) := by kernel_rfl
theorem go_next (i : Nat) (l o : List (List Int)) : runC gx 200 27 [.br true, .br false] goBody (goS i) [.cells [.own 2], .rows [.i64, .i64] l, .rows [.i64, .i64] o] goKeep [0, 1, 5] =
    some (Ex.normal, [SV.func (39 : Nat) [] [SV.ptr (0 : Nat) (0 : Nat)], SV.own (1 : Nat), SV.int IntKind.i64 ((↑i : Int) + (1 : Int))], [some (Body.cells [SV.own (2 : Nat)]), some (Body.rows [IntKind.i64, IntKind.i64] l), some (Body.rows [IntKind.i64, IntKind.i64] (o ++ [[(l.getD i []).getD (0 : Nat) (0 : Int), (l.getD i []).getD (1 : Nat) (0 : Int)]]))], [Fits IntKind.i64 (↑l.length : Int), decide ((↑i : Int) < (↑l.length : Int)) = true, (o ++ [[(l.getD i []).getD (0 : Nat) (0 : Int), (l.getD i []).getD (1 : Nat) (0 : Int)]]).length * (16 : Nat) ≤ (140737488355328 : Nat), Fits IntKind.i64 (↑(o ++ [[(l.getD i []).getD (0 : Nat) (0 : Int), (l.getD i []).getD (1 : Nat) (0 : Int)]]).length : Int), i < l.length, i < l.length, (0 : Int) ≤ (↑i : Int) ∧ (↑i : Int) < (↑(ecount (Body.rows [IntKind.i64, IntKind.i64] l)) : Int), (!decide ((↑(o ++ [[(l.getD (↑i : Int).toNat []).getD ((0 : Nat) + (0 : Nat)) (0 : Int), (l.getD (↑i : Int).toNat []).getD ((0 : Nat) + ((0 : Nat) + (1 : Nat))) (0 : Int)]]).length : Int) ≤ (2000 : Int))) = false, Fits IntKind.i64 ((↑i : Int) + (1 : Int))]) := by kernel_rfl
theorem go_end (i : Nat) (l o : List (List Int)) : runC gx 200 27 [.br false] goBody (goS i) [.cells [.own 2], .rows [.i64, .i64] l, .rows [.i64, .i64] o] goKeep [0, 1, 2] =
    some (Ex.exit (0 : Nat), [SV.func (39 : Nat) [] [SV.ptr (0 : Nat) (0 : Nat)], SV.own (1 : Nat), SV.int IntKind.i64 (↑i : Int)], [some (Body.cells [SV.own (2 : Nat)]), some (Body.rows [IntKind.i64, IntKind.i64] l), some (Body.rows [IntKind.i64, IntKind.i64] o)], [Fits IntKind.i64 (↑l.length : Int), decide ((↑i : Int) < (↑l.length : Int)) = false]) := by kernel_rfl
def goG : LoopF := fun vals B => match vals, B with
  | [.func 39 [] [.ptr 0 0], .own 1, .int .i64 s], [.cells [.raw (.slice none 0 0)], .rows K l] => match sameKs K [.i64, .i64] with
    | true => some ([], [.cells [.own 2], .rows [.i64, .i64] l, .rows [.i64, .i64] (l.drop s.toNat)], [0 ≤ s, s < l.length, l.length ≤ 2000, ∀ r ∈ l, r.length = 2])
    | false => none
  | _, _ => none
theorem gone_some (n v : Int) (l : List (List Int)) : runF gx 200 [.loop 3 goKeep 2 (.exit 0) (mkLoopN goG)] 34 [.ptr 0 0, .int .i64 v] [.cells [.int .i64 n, .own 1], .rows [.i64, .i64] l] [5] =
    some (SV.tuple [SV.own (2 : Nat), SV.sbool (decide ((↑(List.drop (match true with | true => if v < (0 : Int) then (0 : Int) else v | false => if (0 : Int) < v then (0 : Int) else v).toNat l).length : Int) ≤ (2000 : Int)))], [some (Body.cells [SV.int IntKind.i64 n, SV.own (1 : Nat)]), some (Body.rows [IntKind.i64, IntKind.i64] l), some (Body.rows [IntKind.i64, IntKind.i64] (List.drop (if v < (0 : Int) then (0 : Int) else v).toNat l))], [LoopGood gx 27 (.loop goBody) goKeep 2 (.exit 0) (mkLoopN goG), (0 : Int) ≤ if v < (0 : Int) then (0 : Int) else v, (if v < (0 : Int) then (0 : Int) else v) < (↑l.length : Int), l.length ≤ (2000 : Nat), ∀ (r : List Int), r ∈ l → r.length = (2 : Nat), Fits IntKind.i64 (↑(List.drop (if v < (0 : Int) then (0 : Int) else v).toNat l).length : Int)]) := by kernel_rfl
theorem gone_none (n v : Int) (l : List (List Int)) : runF gx 200 [.br false] 34 [.ptr 0 0, .int .i64 v] [.cells [.int .i64 n, .own 1], .rows [.i64, .i64] l] [] =
    some (SV.tuple [SV.raw (Value.slice none (0 : Nat) (0 : Nat)), SV.bool true], [some (Body.cells [SV.int IntKind.i64 n, SV.own (1 : Nat)]), some (Body.rows [IntKind.i64, IntKind.i64] l)], [Fits IntKind.i64 (↑l.length : Int), decide ((match true with | true => if v < (0 : Int) then (0 : Int) else v | false => if (0 : Int) < v then (0 : Int) else v) < (↑l.length : Int)) = false]) := by kernel_rfl
theorem drop_sub (l : List (List Int)) (s n : Nat) (h : s + n = l.length) : sub l s n = l.drop s := by
  unfold sub
  rw [List.take_of_length_le (by simp; omega)]
theorem sub_snoc {l : List (List Int)} {o n : Nat} (h : o + n < l.length) : sub l o (n + 1) = sub l o n ++ [l.getD (o + n) []] := by
  unfold sub
  rw [List.take_add_one, List.getElem?_drop, List.getD_eq_getElem?_getD, List.getElem?_eq_getElem h]; rfl
def goB (l : List (List Int)) (s : Nat) : Nat → List Body
  | 0 => [.cells [.raw (.slice none 0 0)], .rows [.i64, .i64] l]
  | n + 1 => [.cells [.own 2], .rows [.i64, .i64] l, .rows [.i64, .i64] (sub l s (n + 1))]
theorem ids2 {k : Nat} : ∀ j : Nat, j < 2 → ([0, 1, k] : List Nat)[j]? = some j := fun j hj => by
  match j, hj with
  | 0, _ => rfl
  | 1, _ => rfl
theorem go_step {l : List (List Int)} (hl : l.length ≤ 2000) (hr : ∀ r ∈ l, r.length = 2) {s n : Nat} (h : s + n < l.length) {w0 : World} {O : Vx.Own} (hG : GlobOk gx w0 O) :
    SimC gx.P w0 O 27 goBody (goS (s + n)) (goB l s n) .normal (goS (s + (n + 1))) (goB l s (n + 1)) 2 := by
  have F1 : Fits .i64 (l.length : Int) := fits_small (by omega)
  have F4 := fits_i F1 h
  have e1 := row2 hr h
  have ec : ecount (Body.rows [IntKind.i64, IntKind.i64] l) = l.length := rfl
  have es : sub l s (n + 1) = sub l s n ++ [[(l.getD (s + n) []).getD 0 0, (l.getD (s + n) []).getD 1 0]] := by rw [sub_snoc h, e1]
  have hsl : (sub l s n).length = n := sub_length (by omega)
  cases n with
  | zero =>
    have hB : goB l s (0 + 1) = [.cells [.own 2], .rows [.i64, .i64] l, .rows [.i64, .i64] [[(l.getD (s + 0) []).getD 0 0, (l.getD (s + 0) []).getD 1 0]]] := by
      show [_, _, Body.rows _ (sub l s (0 + 1))] = _
      rw [es]; simp [sub]
    rw [hB]
    refine SimC.run (ids := [0, 1, 4]) gx_ok (by decide) (go_first (s + 0) l) ?_ (by decide) (fun j hj => ids2 j hj) (by decide) (by simp [goB]) hG
    simp only [allC_cons, allC_nil, and_true, ec]
    refine ⟨F1, decide_eq_true (by omega), ?_, ?_, h, h, ⟨by omega, by omega⟩, rfl, F4⟩
    · show 1 * 16 ≤ 140737488355328; decide
    · exact fits_of (by simp) (by simp)
  | succ n =>
    have hB : goB l s (n + 1 + 1) = [.cells [.own 2], .rows [.i64, .i64] l, .rows [.i64, .i64] (sub l s (n + 1) ++ [[(l.getD (s + (n + 1)) []).getD 0 0, (l.getD (s + (n + 1)) []).getD 1 0]])] := by
      show [_, _, Body.rows _ (sub l s (n + 1 + 1))] = _
      rw [es]
    rw [hB]
    have h3 : (sub l s (n + 1) ++ [[(l.getD (s + (n + 1)) []).getD 0 0, (l.getD (s + (n + 1)) []).getD 1 0]]).length = n + 2 := by simp [hsl]
    refine SimC.run (ids := [0, 1, 5]) gx_ok (by decide) (go_next (s + (n + 1)) l (sub l s (n + 1))) ?_ (by decide) (fun j hj => ids2 j hj) (by decide) (by simp [goB]) hG
    simp only [allC_cons, allC_nil, and_true, ec]
    refine ⟨F1, decide_eq_true (by omega), by rw [h3]; omega, by rw [h3]; exact fits_small (by omega), h, h, ⟨by omega, by omega⟩, ?_, F4⟩
    have h4 : (sub l s (n + 1) ++ [[(l.getD ((s + (n + 1) : Nat) : Int).toNat []).getD (0 + 0) 0, (l.getD ((s + (n + 1) : Nat) : Int).toNat []).getD (0 + (0 + 1)) 0]]).length = n + 2 := by simp [hsl]
    rw [h4]
    simp; omega
theorem go_loop : LoopGood gx 27 (.loop goBody) goKeep 2 (.exit 0) (mkLoopN goG) := by
  refine LoopGood.mkN (by decide) fun vals B S' B' C hG hC hlen w0 O hgl => ?_
  clear hlen
  unfold goG at hG
  split at hG
  · rename_i s K l
    split at hG
    · rename_i hK
      obtain rfl := sameKs_eq hK
      simp only [Option.some.injEq, Prod.mk.injEq] at hG
      obtain ⟨rfl, rfl, rfl⟩ := hG
      simp only [allC_cons, allC_nil, and_true] at hC
      obtain ⟨h0, h1, h2, h3⟩ := hC
      obtain ⟨s, rfl⟩ := Int.eq_ofNat_of_zero_le h0
      have h1 : s < l.length := by omega
      obtain ⟨n, hn⟩ : ∃ n, s + (n + 1) = l.length := ⟨l.length - s - 1, by omega⟩
      refine SimC.iter (g := gx) (S := fun i => goS (s + i)) (B := goB l s) (N := n + 1) (fun i hi => go_step h2 h3 (by omega) hgl) ?_ (by simp) 0 (by omega)
      refine SimC.weaken (SimC.run (B' := [.cells [.own 2], .rows [.i64, .i64] l, .rows [.i64, .i64] (l.drop s)]) (ids := [0, 1, 2]) gx_ok (by decide) (by rw [← drop_sub l s (n + 1) hn]; exact go_end (s + (n + 1)) l _) ?_ (by simp) (fun j hj => ids2 j hj) (by decide) (by simp [goB]) hgl) (fun t => .inr (by simp [mkT, tget, Tr.get_lf]))
      simp only [allC_cons, allC_nil, and_true]
      exact ⟨fits_small (by omega), decide_eq_false (by omega)⟩
    · simp at hG
  · simp at hG
theorem gone_acc (v : Int) (l : List (List Int)) (hl : l.length ≤ 2000) : FnOk gx 34 [.ptr 0 0, .int .i64 v] [.log l] { val := .tuple [.own 1, .sbool true], new := [.rows [.i64, .i64] (l.drop v.toNat)], C := [l.length ≤ 2000] } := by
  have em : (if v < (0 : Int) then (0 : Int) else v).toNat = v.toNat := by split <;> omega
  by_cases h : v.toNat < l.length
  · refine FnOk.unlogAt (k := 0) (l := l) (v := .tuple [.own 2, .sbool true]) (new := [.rows [.i64, .i64] (l.drop v.toNat)]) rfl (FnOk.factsB fun hfc => ?_) rfl (by simp [mapB]) (by simp [mapB])
    have hrow := hfc (.rows [.i64, .i64] l) (by simp)
    have hrow2 : ∀ r ∈ l, r.length = 2 := fun r hr => (hrow r hr).1
    have hd : (l.drop v.toNat).length ≤ 2000 := by simp; omega
    have h2000 : decide (((List.drop v.toNat l).length : Int) ≤ 2000) = true := decide_eq_true (by omega)
    show FnOk gx 34 [.ptr 0 0, .int .i64 v] [.cells [.int .i64 l.length, .own 1], .rows [.i64, .i64] l] _
    refine FnOk.run (pl := [.loop 3 goKeep 2 (.exit 0) (mkLoopN goG)]) (n := 200) (new := [5]) gx_ok (L := [some (.cells [.int .i64 l.length, .own 1]), some (.rows [.i64, .i64] l), some (.rows [.i64, .i64] (l.drop v.toNat))]) (by have := gone_some l.length v l; simp only [em, h2000] at this; exact this) ?_ (by simp [upto]) rfl (by simp) (by simp) ?_
    · simp only [allC_cons, allC_nil, and_true]
      refine ⟨go_loop, ?_, ?_, hl, hrow2, ?_⟩
      · split <;> omega
      · split <;> omega
      · exact fits_small (by simp; omega)
    · intro j hj
      match j, hj with
      | 0, _ => rfl
      | 1, _ => rfl
      | 2, _ => rfl
      | j + 3, hj => exact absurd hj (by simp)
  · have e : l.drop v.toNat = [] := List.drop_eq_nil_of_le (by omega)
    rw [e]
    refine FnOk.adoptV (v := .tuple [.raw (.slice none 0 0), .bool true]) rfl ?_ fun _ _ _ _ hn d => den_nil_bool hn d
    refine FnOk.unlogAt (k := 0) (l := l) (v := .tuple [.raw (.slice none 0 0), .bool true]) (new := []) rfl ?_ rfl (by simp [mapB]) (by simp)
    refine FnOk.run (out := { val := .tuple [.raw (.slice none 0 0), .bool true] }) (new := []) gx_ok (gone_none l.length v l) ?_ (by simp [upto]) rfl (by simp) (by simp) ?_
    · simp only [allC_cons, allC_nil, and_true]
      refine ⟨fits_small (by omega), decide_eq_false ?_⟩
      show ¬ (if v < 0 then (0 : Int) else v) < (l.length : Int)
      split <;> omega
    · intro j hj
      match j, hj with
      | 0, _ => rfl
      | 1, _ => rfl
      | j + 2, hj => exact absurd hj (by simp)
/-! ### Same -/
theorem sm_two (n m : Int) (la lb : List (List Int)) : runF g2 200 [] 17 [.ptr 0 0, .ptr 1 0] [.cells [.int .i64 n, .own 2], .cells [.int .i64 m, .own 3], .rows [.i64, .i64] la, .rows [.i64, .i64] lb] [] =
    some (SV.sbool (decide (sub la (0 : Nat) la.length = sub lb (0 : Nat) lb.length)), [some (Body.cells [SV.int IntKind.i64 n, SV.own (2 : Nat)]), some (Body.cells [SV.int IntKind.i64 m, SV.own (3 : Nat)]), some (Body.rows [IntKind.i64, IntKind.i64] la), some (Body.rows [IntKind.i64, IntKind.i64] lb)], [(0 : Nat) + la.length ≤ la.length, (0 : Nat) + lb.length ≤ lb.length, la.length ≤ (140737488355328 : Nat), lb.length ≤ (140737488355328 : Nat)]) := by kernel_rfl
theorem sm_nil0 : runF gx 200 [] 17 [.raw (.pointer none), .raw (.pointer none)] [] [] =
    some (SV.bool true, [], []) := by kernel_rfl
theorem sm_ln0 (n : Int) (l : List (List Int)) : runF gx 200 [.br false, .br false] 17 [.ptr 0 0, .raw (.pointer none)] [.cells [.int .i64 n, .own 1], .rows [.i64, .i64] l] [] =
    some (SV.bool true, [some (Body.cells [SV.int IntKind.i64 n, SV.own (1 : Nat)]), some (Body.rows [IntKind.i64, IntKind.i64] l)], [Fits IntKind.i64 (↑l.length : Int), (!decide ((↑l.length : Int) = (0 : Int))) = false, Fits IntKind.i64 (↑l.length : Int), decide ((0 : Int) < (↑l.length : Int)) = false]) := by kernel_rfl
theorem sm_ln1 (n : Int) (l : List (List Int)) : runF gx 200 [.br true] 17 [.ptr 0 0, .raw (.pointer none)] [.cells [.int .i64 n, .own 1], .rows [.i64, .i64] l] [] =
    some (SV.bool false, [some (Body.cells [SV.int IntKind.i64 n, SV.own (1 : Nat)]), some (Body.rows [IntKind.i64, IntKind.i64] l)], [Fits IntKind.i64 (↑l.length : Int), (!decide ((↑l.length : Int) = (0 : Int))) = true]) := by kernel_rfl
theorem sm_nl0 (n : Int) (l : List (List Int)) : runF gx 200 [.br false, .br false] 17 [.raw (.pointer none), .ptr 0 0] [.cells [.int .i64 n, .own 1], .rows [.i64, .i64] l] [] =
    some (SV.bool true, [some (Body.cells [SV.int IntKind.i64 n, SV.own (1 : Nat)]), some (Body.rows [IntKind.i64, IntKind.i64] l)], [Fits IntKind.i64 (↑l.length : Int), (!decide ((0 : Int) = (↑l.length : Int))) = false]) := by kernel_rfl
theorem sm_nl1 (n : Int) (l : List (List Int)) : runF gx 200 [.br true] 17 [.raw (.pointer none), .ptr 0 0] [.cells [.int .i64 n, .own 1], .rows [.i64, .i64] l] [] =
    some (SV.bool false, [some (Body.cells [SV.int IntKind.i64 n, SV.own (1 : Nat)]), some (Body.rows [IntKind.i64, IntKind.i64] l)], [Fits IntKind.i64 (↑l.length : Int), (!decide ((0 : Int) = (↑l.length : Int))) = true]) := by kernel_rfl
abbrev esKeep : List Nat := [0, 1, 12, 13]
noncomputable abbrev esBody : Code := bodyAt Try.prog 35 4
abbrev esS (n i : Nat) : List (Nat × SV) := esKeep.zip [.own 0, .own 0, .int .i64 (n : Int), .int .i64 (i : Int)]
theorem es_go (n i : Nat) (l : List (List Int)) : runC gx 200 26 [.br true, .br false] esBody (esS n i) [.rows [.i64, .i64] l] esKeep [0] =
    some (Ex.normal, [SV.own (0 : Nat), SV.own (0 : Nat), SV.int IntKind.i64 (↑n : Int), SV.int IntKind.i64 ((↑i : Int) + (1 : Int))], [some (Body.rows [IntKind.i64, IntKind.i64] l)], [decide ((↑i : Int) < (↑n : Int)) = true, i < l.length, i < l.length, (0 : Int) ≤ (↑i : Int) ∧ (↑i : Int) < (↑(ecount (Body.rows [IntKind.i64, IntKind.i64] l)) : Int), i < l.length, i < l.length, (0 : Int) ≤ (↑i : Int) ∧ (↑i : Int) < (↑(ecount (Body.rows [IntKind.i64, IntKind.i64] l)) : Int), (!decide ([(l.getD (↑i : Int).toNat []).getD ((0 : Nat) + (0 : Nat)) (0 : Int), (l.getD (↑i : Int).toNat []).getD ((0 : Nat) + ((0 : Nat) + (1 : Nat))) (0 : Int)] = [(l.getD (↑i : Int).toNat []).getD ((0 : Nat) + (0 : Nat)) (0 : Int), (l.getD (↑i : Int).toNat []).getD ((0 : Nat) + ((0 : Nat) + (1 : Nat))) (0 : Int)])) = false, Fits IntKind.i64 ((↑i : Int) + (1 : Int))]) := by kernel_rfl
theorem es_end (n i : Nat) (l : List (List Int)) : runC gx 200 26 [.br false] esBody (esS n i) [.rows [.i64, .i64] l] esKeep [0] =
    some (Ex.exit (0 : Nat), [SV.own (0 : Nat), SV.own (0 : Nat), SV.int IntKind.i64 (↑n : Int), SV.int IntKind.i64 (↑i : Int)], [some (Body.rows [IntKind.i64, IntKind.i64] l)], [decide ((↑i : Int) < (↑n : Int)) = false]) := by kernel_rfl
def esG : LoopF := fun vals B => match vals, B with
  | [.own 0, .own 0, .int .i64 n, .int .i64 i], [.rows K l] => match sameKs K [.i64, .i64] with
    | true => some ([], [.rows [.i64, .i64] l], [n = (l.length : Int), i = 0, l.length ≤ 140737488355328])
    | false => none
  | _, _ => none
theorem es_loop : LoopGood gx 26 (.loop esBody) esKeep 1 (.exit 0) (mkLoopN esG) := by
  refine LoopGood.mkN (by decide) fun vals B S' B' C hG hC hlen w0 O hgl => ?_
  clear hlen
  unfold esG at hG
  split at hG
  · rename_i n i K l
    split at hG
    · rename_i hK
      obtain rfl := sameKs_eq hK
      simp only [Option.some.injEq, Prod.mk.injEq] at hG
      obtain ⟨rfl, rfl, rfl⟩ := hG
      simp only [allC_cons, allC_nil, and_true] at hC
      obtain ⟨rfl, rfl, h3⟩ := hC
      have F1 := fits_small h3
      refine SimC.iter (g := gx) (S := fun i => esS l.length i) (B := fun _ => [.rows [.i64, .i64] l]) (N := l.length) (fun i hi => ?_) ?_ (by simp) 0 (by omega)
      · refine SimC.run (B' := [.rows [.i64, .i64] l]) (ids := [0]) gx_ok (by decide) (es_go l.length i l) ?_ (by decide) (fun j hj => one_id j hj) (by decide) (by simp) hgl
        simp only [allC_cons, allC_nil, and_true]
        have ec : ecount (Body.rows [IntKind.i64, IntKind.i64] l) = l.length := rfl
        have F4 := fits_i F1 hi
        simp only [ec]
        (repeat' (first | exact F1 | exact F4 | exact decide_eq_true (by omega) | omega | (simp; done) | refine And.intro ?_ ?_))
      · refine SimC.weaken (SimC.run (B' := [.rows [.i64, .i64] l]) (ids := [0]) gx_ok (by decide) (es_end l.length l.length l) ?_ (by decide) (fun j hj => one_id j hj) (by decide) (by simp) hgl) (fun t => .inr (by simp [mkT, tget, Tr.get_lf]))
        simp only [allC_cons, allC_nil, and_true]
        exact decide_eq_false (by omega)
    · simp at hG
  · simp at hG
theorem sm_self (n : Int) (l : List (List Int)) : runF gx 200 [.br false, .loop 4 esKeep 1 (.exit 0) (mkLoopN esG)] 17 [.ptr 0 0, .ptr 0 0] [.cells [.int .i64 n, .own 1], .rows [.i64, .i64] l] [] =
    some (SV.bool true, [some (Body.cells [SV.int IntKind.i64 n, SV.own (1 : Nat)]), some (Body.rows [IntKind.i64, IntKind.i64] l)], [Fits IntKind.i64 (↑l.length : Int), Fits IntKind.i64 (↑l.length : Int), (!decide ((↑l.length : Int) = (↑l.length : Int))) = false, Fits IntKind.i64 (↑l.length : Int), LoopGood gx 26 (.loop esBody) esKeep 1 (.exit 0) (mkLoopN esG), (↑l.length : Int) = (↑l.length : Int), (0 : Int) = (0 : Int), l.length ≤ (140737488355328 : Nat)]) := by kernel_rfl
theorem two_at {B : List Body} (hB : B.length = 2) {v : SV} (j : Nat) (hj : j < B.length + ([] : List Body).length) : ((B.map some)[j]?).getD none = afterH B { val := v } j := by
  simp at hj
  simp [afterH, newH, newAll, updAll, BH, hj]
theorem at_B {B : List Body} {v : SV} (j : Nat) (hj : j < B.length + ([] : List Body).length) : ((B.map some)[j]?).getD none = afterH B { val := v } j := by
  simp at hj
  simp [afterH, newH, newAll, updAll, BH, hj]
def sameF : SumF := fun args B => match args, B with
  | [.ptr 0 0, .ptr 1 0], [.log a, .log b] => some { val := .sbool (decide (a = b)), C := [a.length ≤ 140737488355328, b.length ≤ 140737488355328] }
  | [.ptr 0 0, .ptr 0 0], [.log a] => some { val := .sbool (decide (a = a)), C := [a.length ≤ 140737488355328] }
  | [.ptr 0 0, .raw (.pointer none)], [.log a] => some { val := .sbool (decide (a = [])), C := [a.length ≤ 140737488355328] }
  | [.raw (.pointer none), .ptr 0 0], [.log a] => some { val := .sbool (decide (a = [])), C := [a.length ≤ 140737488355328] }
  | [.raw (.pointer none), .raw (.pointer none)], [] => some { val := .sbool true }
  | _, _ => none
theorem acc17 : Acc g2 17 sameF := by
  intro args B out h hC
  unfold sameF at h
  split at h
  · rename_i a b
    simp only [Option.some.injEq] at h; subst h
    simp only [allC_cons, allC_nil, and_true] at hC
    refine FnOk.unlogAt (k := 0) (l := a) (new := []) rfl (FnOk.unlogAt (k := 1) (l := b) (new := []) rfl (v := .sbool (decide (sub a 0 a.length = sub b 0 b.length))) ?_ rfl (by simp [mapB, mapL, mapC, idx, idxF, skipIds, upto]) (by simp)) (by simp [sub_all, mapC]) (by simp [mapB]) (by simp)
    refine FnOk.run (out := { val := .sbool (decide (sub a 0 a.length = sub b 0 b.length)) }) (new := []) g2_ok (sm_two _ _ _ _) ?_ (by simp [upto]) rfl (by simp) (by simp) at_B
    simp only [allC_cons, allC_nil, and_true]
    exact ⟨by omega, by omega, hC.1, hC.2⟩
  · rename_i a
    simp only [Option.some.injEq] at h; subst h
    simp only [allC_cons, allC_nil, and_true] at hC
    have F1 := fits_small hC
    refine FnOk.of (g := gx) rfl rfl (FnOk.toSb (b := true) ?_ (by simp))
    refine FnOk.unlogAt (k := 0) (l := a) (v := .bool true) (new := []) rfl ?_ rfl (by simp [mapB]) (by simp)
    refine FnOk.run (out := { val := .bool true }) (new := []) gx_ok (sm_self a.length a) ?_ (by simp [upto]) rfl (by simp) (by simp) at_B
    simp only [allC_cons, allC_nil, and_true]
    (repeat' (first | exact F1 | exact es_loop | exact hC | rfl | (simp; done) | refine And.intro ?_ ?_))
  · rename_i a
    simp only [Option.some.injEq] at h; subst h
    simp only [allC_cons, allC_nil, and_true] at hC
    have F1 := fits_small hC
    refine FnOk.of (g := gx) rfl rfl ?_
    cases a with
    | nil =>
      refine FnOk.toSb (b := true) ?_ (by simp)
      refine FnOk.unlogAt (k := 0) (l := []) (v := .bool true) (new := []) rfl ?_ rfl (by simp [mapB]) (by simp)
      exact FnOk.run (out := { val := .bool true }) (new := []) gx_ok (sm_ln0 0 []) (by simp only [allC_cons, allC_nil, and_true]; exact ⟨F1, rfl, F1, rfl⟩) (by simp [upto]) rfl (by simp) (by simp) at_B
    | cons x r =>
      refine FnOk.toSb (b := false) ?_ (by simp)
      refine FnOk.unlogAt (k := 0) (l := x :: r) (v := .bool false) (new := []) rfl ?_ rfl (by simp [mapB]) (by simp)
      exact FnOk.run (out := { val := .bool false }) (new := []) gx_ok (sm_ln1 _ (x :: r)) (by simp only [allC_cons, allC_nil, and_true]; exact ⟨F1, by simp; omega⟩) (by simp [upto]) rfl (by simp) (by simp) at_B
  · rename_i a
    simp only [Option.some.injEq] at h; subst h
    simp only [allC_cons, allC_nil, and_true] at hC
    have F1 := fits_small hC
    refine FnOk.of (g := gx) rfl rfl ?_
    cases a with
    | nil =>
      refine FnOk.toSb (b := true) ?_ (by simp)
      refine FnOk.unlogAt (k := 0) (l := []) (v := .bool true) (new := []) rfl ?_ rfl (by simp [mapB]) (by simp)
      exact FnOk.run (out := { val := .bool true }) (new := []) gx_ok (sm_nl0 0 []) (by simp only [allC_cons, allC_nil, and_true]; exact ⟨F1, rfl⟩) (by simp [upto]) rfl (by simp) (by simp) at_B
    | cons x r =>
      refine FnOk.toSb (b := false) ?_ (by simp)
      refine FnOk.unlogAt (k := 0) (l := x :: r) (v := .bool false) (new := []) rfl ?_ rfl (by simp [mapB]) (by simp)
      exact FnOk.run (out := { val := .bool false }) (new := []) gx_ok (sm_nl1 _ (x :: r)) (by simp only [allC_cons, allC_nil, and_true]; exact ⟨F1, by simp; omega⟩) (by simp [upto]) rfl (by simp) (by simp) at_B
  · simp only [Option.some.injEq] at h; subst h
    exact FnOk.of (g := gx) rfl rfl (FnOk.toSb (b := true) (FnOk.pure gx_ok sm_nil0 (by simp [AllC])) rfl)
  · simp at h
end Go.Proofs.Ytkpkdingeomhnaa
