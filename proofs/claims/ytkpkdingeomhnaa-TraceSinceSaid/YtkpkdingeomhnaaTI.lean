/- Accounts of this seat's functions: lemmas, no statement of their own. No conditions. -/
import Derived.Test.YtkpkdingeomhnaaTH
namespace Go.Proofs.Ytkpkdingeomhnaa
open Go Go.Vx

theorem runsN_app (l m : List (List Int)) : ∀ n, n ≤ l.length → runsN (l ++ m) n = runsN l n
  | 0, _ => rfl
  | n + 1, h => by
    have e : (l ++ m).getD n [] = l.getD n [] := by rw [List.getD_eq_getElem?_getD, List.getElem?_append_left (by omega), ← List.getD_eq_getElem?_getD]
    simp only [runsN, runsN_app l m n (by omega), e]
theorem runsL_snoc (l : List (List Int)) (x : List Int) : runsL (l ++ [x]) = runStep (runsL l) (x.getD 0 0) (x.getD 1 0) := by
  unfold runsL
  rw [show (l ++ [x]).length = l.length + 1 by simp]
  simp only [runsN, runsN_app l [x] l.length (Nat.le_refl _)]
  simp
theorem runsL_ok (l : List (List Int)) : RunsOk (runsL l) l.length := runsN_ok l _
theorem runStep_pos {o : List (List Int)} (a b : Int) : 0 < (runStep o a b).length := by
  unfold runStep
  split
  · rename_i h; simp; exact h.1
  · simp
theorem runsL_pos {l : List (List Int)} (h : l ≠ []) : 0 < (runsL l).length := by
  rcases List.eq_nil_or_concat l with e | ⟨p, x, e⟩
  · exact absurd e h
  · rw [e, List.concat_eq_append, runsL_snoc]; exact runStep_pos _ _

def ruB (n : Int) (l : List (List Int)) : List (List Int) → List Body
  | [] => ru0 n l
  | x :: r => ruO n l (runsL (x :: r))
theorem ruB_pos {n : Int} {l p : List (List Int)} (h : p ≠ []) : ruB n l p = ruO n l (runsL p) := by
  cases p with
  | nil => exact absurd rfl h
  | cons x r => rfl
theorem ruB_low {n : Int} {l p : List (List Int)} : LogH n l (BH (ruB n l p)) := by
  cases p <;> exact ⟨rfl, rfl, rfl, rfl⟩
theorem ids5 {k : Nat} : ∀ j : Nat, j < 5 → ([0, 1, 2, 3, 4, k] : List Nat)[j]? = some j := fun j hj => by
  match j, hj with
  | 0, _ => rfl
  | 1, _ => rfl
  | 2, _ => rfl
  | 3, _ => rfl
  | 4, _ => rfl
theorem ru_round {n : Int} {l : List (List Int)} (hl : l.length * 24 ≤ 140737488355328) (hrow : ∀ r ∈ l, r.length = 2) (pre : List (List Int)) (x : List Int) (rest : List (List Int)) (hx : l = pre ++ x :: rest) :
    RoundOk gx 38 ruParts.A ruParts.Bd ((8, Vx.evS x) :: [(3, .ptr 4 0)]) (ruB n l pre) (ruB n l (pre ++ [x])) 5 := by
  have hpl : plainC ruParts.A = true ∧ plainC ruParts.Bd = true := by constructor <;> kernel_rfl
  obtain ⟨a, b, rfl⟩ : ∃ a b, x = [a, b] := by
    have := hrow x (by rw [hx]; simp)
    match x, this with
    | [a, b], _ => exact ⟨a, b, rfl⟩
  have hlen : pre.length + 1 ≤ l.length := by rw [hx]; simp
  rw [ruB_pos (p := pre ++ [[a, b]]) (by simp), runsL_snoc]
  cases pre with
  | nil =>
    refine RoundOk.run (ids := [0, 1, 2, 3, 4, 7]) gx_ok hpl.1 hpl.2 (by decide) (by simp [ruB]) (ru_first n l a b) ?_ (by decide) (fun j hj => ids5 j hj)
    simp only [allC_cons, allC_nil, and_true]
    show 1 * 24 ≤ 140737488355328
    decide
  | cons y r =>
    rw [ruB_pos (p := y :: r) (by simp)]
    have ok := runsL_ok (y :: r)
    have hpos := runsL_pos (l := y :: r) (by simp)
    generalize runsL (y :: r) = o at ok hpos ⊢
    have hol := ok.len
    have hq : ((o.length : Int) - 1).toNat = o.length - 1 := by omega
    have F1 : Fits .i64 (o.length : Int) := fits_small (by omega)
    have F3 : Fits .i64 ((o.length : Int) - 1) := fits_of (by omega) (by omega)
    have hm : lastR o ∈ o := by
      unfold lastR
      rw [List.getD_eq_getElem?_getD, List.getElem?_eq_getElem (show o.length - 1 < o.length by omega)]
      exact List.getElem_mem _
    have hp := ok.pos _ hm
    have F5 : Fits .i64 ((lastR o).getD 2 0 + 1) := fits_of (by omega) (by omega)
    have ec : (ecount (Body.rows [IntKind.i64, IntKind.i64, IntKind.i64] o) : Nat) = o.length := rfl
    by_cases c : [(lastR o).getD 0 0, (lastR o).getD 1 0] = [a, b]
    · have hk := decide_eq_true c
      have e2 : runStep o a b = o.set (o.length - 1) ((lastR o).set 2 ((lastR o).getD 2 0 + 1)) := by unfold runStep; simp at c; rw [if_pos ⟨hpos, by simpa using c⟩]
      have e3 : runStep o (([a, b] : List Int).getD 0 0) (([a, b] : List Int).getD 1 0) = runStep o a b := rfl
      rw [e3, e2]
      refine RoundOk.run (ids := [0, 1, 2, 3, 4, 5]) gx_ok hpl.1 hpl.2 (by decide) (by simp) (by have := ru_same n l o a b; rw [hq] at this; exact this) ?_ (by decide) (fun j hj => ids5 j hj)
      simp only [allC_cons, allC_nil, and_true, ec]
      (repeat' (first | exact F1 | exact F3 | exact F5 | exact hk | exact decide_eq_true (by omega) | omega | refine And.intro ?_ ?_))
    · have hk := decide_eq_false c
      have e2 : runStep o a b = o ++ [[a, b, 1]] := by unfold runStep; simp at c; rw [if_neg fun h => c h.2.1 h.2.2]
      have e3 : runStep o (([a, b] : List Int).getD 0 0) (([a, b] : List Int).getD 1 0) = runStep o a b := rfl
      rw [e3, e2]
      refine RoundOk.run (ids := [0, 1, 2, 3, 4, 8]) gx_ok hpl.1 hpl.2 (by decide) (by simp) (by have := ru_next n l o a b; rw [hq] at this; exact this) ?_ (by decide) (fun j hj => ids5 j hj)
      simp only [allC_cons, allC_nil, and_true, ec]
      (repeat' (first | exact F1 | exact F3 | exact F5 | exact hk | exact decide_eq_true (by omega) | omega | (rw [show (o ++ [[a, b, (1 : Int)]]).length = o.length + 1 by simp]; omega) | refine And.intro ?_ ?_))

theorem ru_fn {l : List (List Int)} (hl : l.length * 24 ≤ 140737488355328) {out : OpOut} {L : List (Option Body)} {ids2 : List Nat}
    (hpost : runE gx 60 38 ruParts.i ruParts.ops [(3, .ptr 4 0)] (ruB l.length l l) 2 ids2 = some (out.val, L, [])) (hnd2 : ids2.Nodup) (hm2 : ∀ j, j < 2 → ids2[j]? = some j) (hl2 : ids2.length = 2 + out.new.length)
    (hL : ∀ j, j < 2 + out.new.length → (L[j]?).getD none = afterH [.cells [.int .i64 l.length, .own 1], .rows [.i64, .i64] l] out j) (hu : ∀ y ∈ out.upd, y.1 < 2) :
    FnOk gx 21 [.ptr 0 0] [.cells [.int .i64 l.length, .own 1], .rows [.i64, .i64] l] out := by
  refine FnOk.factsB fun hfc => ?_
  have hrow := hfc (.rows [.i64, .i64] l) (by simp)
  have hrow2 : ∀ r ∈ l, r.length = 2 := fun r hr => (hrow r hr).1
  have hfitl : Fits .i64 (l.length : Int) := (hfc (.cells [.int .i64 l.length, .own 1]) (by simp)).1
  refine rangeFn_ok (α := List Int) gx_ok (fn := Try.f21) Try.func21 (by kernel_rfl) (k := ruParts.k) (gop := .tmp 7) (p := 8) (c0 := ruParts.c0) (c1 := ruParts.c1) (c2 := ruParts.c2) (A := ruParts.A) (Bd := ruParts.Bd) (i := ruParts.i) (ops := ruParts.ops) (t := 2) (by kernel_rfl) (by decide) (by kernel_rfl) (by decide) (args := [.ptr 0 0]) (B := [.cells [.int .i64 l.length, .own 1], .rows [.i64, .i64] l]) (by decide) (by simp)
    (ru_pre _ l) (by simp [AllC]) (by decide) (m := 5) ?_ (by simp) ?_ (gf := 38) (enc := evV) (encS := Vx.evS) (xs := l) (Bs := ruB l.length l) (S := [(3, .ptr 4 0)]) (fun t => ?_) (fun pre x rest hx => ru_round hl hrow2 pre x rest hx) ?_ ?_ (enters_of Try.func38 (by kernel_rfl) rfl) ?_ ?_ hpost (by simp [AllC]) hnd2 hm2 hl2 hL hu
  · intro j _ hj
    match j, hj with
    | 0, _ => rfl
    | 1, _ => rfl
    | j + 2, hj => exact absurd hj (by simp)
  · intro k hk; simp at hk; rcases hk with rfl | rfl <;> decide
  · by_cases h3 : t = 3
    · subst h3; left; rfl
    · right
      have e : tget (mkT [(3, SV.ptr 4 0)]) t = if t = 3 then .ptr 4 0 else tget (mkT []) t := Tr.get_set _ _ _ _ _ (by decide)
      rw [e, if_neg h3]; simp [tget, mkT, Tr.get_lf]
  · intro x hx w0 O ρ
    obtain ⟨h2, hk⟩ := hrow x hx
    obtain ⟨a, b, rfl⟩ : ∃ a b, x = [a, b] := by
      match x, h2 with
      | [a, b], _ => exact ⟨a, b, rfl⟩
    have ha := hk 0 .i64 a rfl rfl
    have hb := hk 1 .i64 b rfl rfl
    refine .inr ⟨rfl, ?_⟩
    simp only [Vx.evS, evV, DenC, DenL]
    exact ⟨_, _, rfl, ⟨rfl, ha⟩, rfl, _, _, rfl, ⟨rfl, hb⟩, rfl, rfl⟩
  · intro y hy; simp at hy; subst hy; exact ⟨by decide, by simp [mapC, lowId]⟩
  · intro w0 O hG ρ Φ a w r
    have t9 := r.tmps 7
    rw [show tget (mkT (([3, 7] : List Nat).zip [SV.ptr 4 0, .func 38 [] [.ptr 2 0, .ptr 3 0]])) 7 = .func 38 [] [.ptr 2 0, .ptr 3 0] from rfl] at t9
    obtain ⟨lb, e1, K, hK, hit⟩ := since_K since_ok hrow2 hfitl (n := l.length) ruB_low r.heap t9
    exact ⟨lb, e1, K, fun pre ρ' Φ' W hlow x => hK ρ' _ Φ' W (fun j h hj => hlow j h (by omega)) ruB_low x, hit⟩
  · cases l <;> simp [ruB]
theorem runs_acc (l : List (List Int)) (hl : l.length * 24 ≤ 140737488355328) : FnOk gx 21 [.ptr 0 0] [.log l] { val := .own 1, new := [.rows [.i64, .i64, .i64] (runsL l)], C := [l.length * 24 ≤ 140737488355328] } := by
  by_cases h : l = []
  · subst h
    refine FnOk.adopt rfl (by simp) (FnOk.logRead (ru_fn hl (out := { val := .raw (.slice none 0 0) }) (ru_post0 _ _) (by decide) ?_ rfl ?_ (by simp)) (by simp [mapC]))
    · intro j hj
      match j, hj with
      | 0, _ => rfl
      | 1, _ => rfl
    · intro j hj
      match j, hj with
      | 0, _ => rfl
      | 1, _ => rfl
      | j + 2, hj => exact absurd hj (by simp)
  · refine FnOk.logRows (ru_fn hl (out := { val := .own 2, new := [.rows [.i64, .i64, .i64] (runsL l)] }) (by rw [ruB_pos h]; exact ru_post _ _ _) (by decide) ?_ rfl ?_ (by simp))
    · intro j hj
      match j, hj with
      | 0, _ => rfl
      | 1, _ => rfl
    · intro j hj
      match j, hj with
      | 0, _ => rfl
      | 1, _ => rfl
      | 2, _ => rfl
      | j + 3, hj => exact absurd hj (by simp)
end Go.Proofs.Ytkpkdingeomhnaa
