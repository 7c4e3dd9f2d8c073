/- A symbolic executor over the model's code, and that it is sound, part 4: lemmas for the proofs of this seat, no statement of their own. No conditions. -/
import Derived.Test.YtejcjdhplpjpjaaV3
import Derived.StillTail

set_option linter.unusedVariables false
/- A range over a function, round by round. -/
namespace Go.Vx
open Go

section
variable {w0 : World} {O : Own} {ρ ρ' : Rho} {H H' : Nat → Option Body} {w w2 : World} {Φ Φ' : Nat → Foot}

theorem cell_noncells {W : World} {b o : Nat} (h : ∀ c t fr, W.heap[b]? ≠ some (.cells c t fr)) : W.cell? (adr b o) = none := by
  show (match W.heap[b]? with | some (.cells c _ _) => c[o]? | _ => none) = none
  split
  · rename_i c t fr e; exact absurd e (h _ _ _)
  · rfl
theorem not_cells {o : Obj} (h : o.isCells = false) (c : Array Value) (t : TypeId) (fr : Nat × Nat) : o ≠ .cells c t fr := fun e => by rw [e] at h; simp [Obj.isCells] at h

theorem heap_alloc_old (W : World) (o : Obj) {k : Nat} (hk : k < W.heap.size) : (W.alloc o).heap[k]? = W.heap[k]? := by
  show (W.heap.push o)[k]? = _
  rw [Array.getElem?_push, if_neg (by omega)]
theorem heap_putObj (W : World) (l k : Nat) (o : Obj) (hl : l < W.heap.size) : (W.putObj l o).heap[k]? = if k = l then some o else W.heap[k]? := by
  split
  · subst_vars; exact World.putObj_heap_same hl
  · rename_i h; exact World.putObj_heap_other h

theorem RelH.putObj (x : RelH w0 O ρ H w Φ) {l : Nat} (hl : w0.heap.size ≤ l) {o o' : Obj} (ho : w.heap[l]? = some o) (hc : o.isCells = false) (hc' : o'.isCells = false) : RelH w0 O ρ H (w.putObj l o') Φ := by
  have hlt : l < w.heap.size := (Array.getElem?_eq_some_iff.1 ho).1
  have hh := fun k => heap_putObj w l k o' hlt
  have hsz : (w.putObj l o').heap.size = w.heap.size := by unfold World.putObj; simp
  refine x.move ⟨x.frame.os, x.frame.tape, x.frame.output, by rw [hsz]; exact x.frame.size, fun k hk => ?_, x.frame.mem, fun k hk => ?_⟩ (by rw [hsz]; exact Nat.le_refl _) fun id hid b o1 hF => ?_
  · rw [hh, if_neg (by omega)]; exact x.frame.block k hk
  · rw [hh]; split
    · intro c t fr e; simp only [Option.some.injEq] at e; exact absurd e (not_cells hc' _ _ _)
    · exact x.frame.calm k hk
  · have hne : b ≠ l := by
      rintro rfl
      obtain ⟨bd, hb⟩ : ∃ bd, H id = some bd := by cases e : H id with | none => exact absurd e hid | some b => exact ⟨b, rfl⟩
      obtain ⟨hd, _, hhh⟩ := x.holds id bd hb
      obtain ⟨v, hv⟩ := hhh.live hF
      rw [cell_noncells (fun c t fr e => by rw [ho] at e; simp only [Option.some.injEq] at e; exact not_cells hc _ _ _ e)] at hv
      simp at hv
    constructor
    · show (match (w.putObj l o').heap[b]? with | some (.cells c _ _) => c[o1]? | _ => none) = (match w.heap[b]? with | some (.cells c _ _) => c[o1]? | _ => none)
      rw [hh, if_neg hne]
    · show (match (w.putObj l o').heap[b]? with | some (.cells _ _ (lo, hi)) => decide (lo ≤ o1) && decide (o1 < hi) | _ => false) = (match w.heap[b]? with | some (.cells _ _ (lo, hi)) => decide (lo ≤ o1) && decide (o1 < hi) | _ => false)
      rw [hh, if_neg hne]

theorem RelH.allocObj (x : RelH w0 O ρ H w Φ) {o : Obj} (hc : o.isCells = false) : RelH w0 O ρ H (w.alloc o) Φ :=
  x.move (x.frame.alloc o fun c t fr e => by simp only [Option.some.injEq] at e; exact absurd e (not_cells hc _ _ _)) (by simp) fun id hid b o1 hF => by
    have := (x.mine id b o1 hid hF).1
    exact ⟨cell_alloc w o this o1, frozen_alloc w o this o1⟩

/-! ### one round -/
noncomputable def runR (g : Ctx) (n nT : Nat) (plA plB : List Plan) (A Bd : Code) (S : List (Nat × SV)) (B : List Body) (ids : List Nat) : Option (List (Option Body) × List Prop) :=
  match exec g (LoopGood g) n nT plA A (mkT S) (mkB B) with
  | some ⟨.normal, T1, H1, _, C1⟩ => match exec g (LoopGood g) n nT plB Bd T1 H1 with
    | some ⟨.normal, _, H2, _, C2⟩ => some (ids.map fun id => (hget H2 id).map (mapB (idx ids)), C1 ++ C2)
    | _ => none
  | _ => none

def RoundOk (g : Ctx) (nT : Nat) (A Bd : Code) (S : List (Nat × SV)) (B B' : List Body) (m : Nat) : Prop :=
  ∀ w0 O, GlobOk g w0 O → ∀ ρ Φ a w l, RelA nT w0 O ρ (tget (mkT S)) (BH B) Φ a w → (∀ j, B.length ≤ j → ρ j = none) → w0.heap.size ≤ l → (∃ o, w.heap[l]? = some o ∧ o.isCells = false) →
    A.wpIn (FR l) 0 g.P (Exit.then (fun a1 w1 => KeepsOthers w w1 ∧ ∀ o', o'.isCells = false →
      Bd.wpIn (FR l) 0 g.P (fun e _ w' => e = .normal ∧ KeepsOthers (w1.putObj l o') w' ∧ ∃ ρ' Φ', (∀ j h, j < m → ρ j = some h → ρ' j = some h) ∧ (∀ j, B'.length ≤ j → ρ' j = none) ∧ RelH w0 O ρ' (BH B') w' Φ') a1 (w1.putObj l o'))
      (fun _ _ _ => False)) a w

theorem RoundOk.run {g : Ctx} (hU : CtxU g) {n nT m : Nat} {plA plB : List Plan} {A Bd : Code} {S : List (Nat × SV)} {B B' : List Body} {ids : List Nat} {C : List Prop} (hA : plainC A = true) (hBd : plainC Bd = true) (hn : nT < 65535) (hB : B.length < 65535)
    (h : runR g n nT plA plB A Bd S B ids = some (B'.map some, C)) (hC : AllC C) (hnd : ids.Nodup) (hm : ∀ j, j < m → ids[j]? = some j) : RoundOk g nT A Bd S B B' m := by
  intro w0 O hG ρ Φ a w l r hr hl ⟨o, ho, hoc⟩
  unfold runR at h
  split at h
  · rename_i T1 H1 pl1 C1 h1
    split at h
    · rename_i T2 H2 pl2 C2 h2
      simp only [Option.some.injEq, Prod.mk.injEq] at h
      obtain ⟨hb, rfl⟩ := h
      obtain ⟨c1, c2⟩ := hC.append
      have s1 : ∀ w0' O', O'.mem = O.mem → SimF g.P w0' O' l nT A (mkT S) (mkB B) .normal T1 H1 := fun w0' O' hO => execF_ok (hU w0' O' (glob_cong hO.symm hG)) n _ _ _ _ _ _ hA hn h1 c1
      have s2 : ∀ w0' O', O'.mem = O.mem → SimF g.P w0' O' l nT Bd T1 H1 .normal T2 H2 := fun w0' O' hO => execF_ok (hU w0' O' (glob_cong hO.symm hG)) n _ _ _ _ _ _ hBd hn h2 c2
      rw [← hget_mkB hB] at r
      refine wpIn_mono (SimF.keeps s1 rfl r fun id hid _ => hr id hid) fun e' a' w' ⟨he, ⟨ρ1, Φ1, q1, q2, q3⟩, hk⟩ => ?_
      subst he
      refine ⟨hk, fun o' ho' => ?_⟩
      have ho1 := hk.same l o ho hoc
      have r1 : RelA nT w0 O ρ1 (tget T1) (hget H1) Φ1 a' (w'.putObj l o') := ⟨q3.size, q3.defers, q3.tmps, q3.heap.putObj hl ho1 hoc ho'⟩
      have hn1 := (s1 w0 O rfl).1
      have hn2 := (s2 w0 O rfl).1
      refine wpIn_mono (SimF.keeps s2 rfl r1 fun id h1 _ => ?_) fun e2 a2 w2 ⟨he2, ⟨ρ2, Φ2, p1, p2, p3⟩, hk2⟩ => ?_
      · by_cases e : ρ1 id = ρ id
        · rw [e]; exact hr id (Nat.le_trans hn1 h1)
        · have := (q2 id e).2; omega
      subst he2
      refine ⟨rfl, hk2, inR ρ2 ids, inF Φ2 ids, fun j h hj hh => by simp [inR, hm j hj, p1 j h (q1 j h hh)], fun j hj => ?_, ?_⟩
      · have : ids.length = B'.length := by have := congrArg List.length hb; simpa using this
        simp [inR, List.getElem?_eq_none (show ids.length ≤ j by omega)]
      · refine relH_funext (fun j => ?_) (relH_ren p3.heap hnd)
        unfold renH BH
        have := congrArg (fun l => l[j]?) hb
        simp only [List.getElem?_map] at this
        cases hj : ids[j]? with
        | none =>
          rw [hj] at this
          cases hb' : B'[j]? with
          | none => rfl
          | some b => rw [hb'] at this; simp at this
        | some id =>
          rw [hj] at this
          cases hb' : B'[j]? with
          | none => rw [hb'] at this; simp at this
          | some b => rw [hb'] at this; simpa using this
    · simp at h
  · simp at h

/-- an iterator hands xs on, one by one, if all rounds go on -/
def IterOk {α : Type} (P : Program) (gf : FuncId) (lb : Array Value) (enc : α → Value) (xs : List α) (K : World → Prop) : Prop :=
  ∀ (l : Nat) (J : List α → World → Prop), (∀ pre W, J pre W → K W) →
    (∀ pre x rest W, xs = pre ++ x :: rest → J pre W → YieldAt Fence.wide 0 P l #[enc x] W (fun e W' => e = .returned (.bool true) ∧ J (pre ++ [x]) W')) →
    ∀ W, J [] W → CallsIn Fence.wide 0 P gf (#[.func (.yield l) #[] #[]] ++ lb) W (fun e W' => (∃ v, e = .returned v) ∧ J xs W')

def lowId (m : Nat) : Nat → Option Nat := fun j => if j < m then some j else none

theorem rangeFunc_ok {α : Type} {g : Ctx} {nT m : Nat} (hn : nT < 65535) {gop : Operand} {p : Nat} {A Bd : Code} {gf : FuncId} {lb : Array Value} {enc : α → Value} {encS : α → SV} {xs : List α}
    {S : List (Nat × SV)} {Bs : List α → List Body} (hround : ∀ pre x rest, xs = pre ++ x :: rest → RoundOk g nT A Bd ((p, encS x) :: S) (Bs pre) (Bs (pre ++ [x])) m)
    (hden : ∀ x, x ∈ xs → ∀ w0 O ρ, DenV w0 O ρ (encS x) (enc x)) (hS : ∀ y ∈ S, y.1 < 65535 ∧ mapC (lowId m) y.2 = y.2) (hp : p < nT)
    (hG : GlobOk g w0 O) {a : Act} (r : RelA nT w0 O ρ (tget (mkT S)) (BH (Bs [])) Φ a w) (hρ : ∀ j, (Bs []).length ≤ j → ρ j = none)
    (hg : a.eval gop = .func (.func gf) #[] lb) (eg : ∀ args w, (callFunc gf args).run g.P w = .ok (.enter gf args) w)
    {K : World → Prop} (hK : ∀ pre ρ' Φ' W, (∀ j h, j < m → ρ j = some h → ρ' j = some h) → RelH w0 O ρ' (BH (Bs pre)) W Φ' → K W) (hit : IterOk g.P gf lb enc xs K) :
    (Code.rangeFunc gop #[p] A Bd).wpIn Fence.wide 0 g.P (fun e' a' w' => e' = .normal ∧ ∃ D, a' = { a with defers := { target := .collected D, args := #[] } :: a.defers } ∧ w0.heap.size ≤ D ∧ w'.heap[D]? = some (.deferred (some [])) ∧
      ∃ ρ' Φ', (∀ j h, j < m → ρ j = some h → ρ' j = some h) ∧ (∀ j, (Bs xs).length ≤ j → ρ' j = none) ∧ RelH w0 O ρ' (BH (Bs xs)) w' Φ') a w := by
  refine wpIn_rangeFunc ?_
  intro fn hfn
  obtain ⟨rec, hrec⟩ : ∃ rec : LoopState → Option Code → Loop, rec = fun st pe => { state := st, pending := pe, fn, tmps := a.tmps, params := #[p], assign := A, body := Bd, defers := w.heap.size } := ⟨_, rfl⟩
  obtain ⟨W1, hW1⟩ : ∃ W1, (w.alloc (.deferred (some []))).alloc (.loop (rec .ready none)) = W1 := ⟨_, rfl⟩
  have hL1 : W1.heap[w.heap.size + 1]? = some (.loop (rec .ready none)) := by
    rw [← hW1]; have := World.alloc_heap_new (w.alloc (.deferred (some []))) (.loop (rec .ready none)); rwa [World.size_alloc] at this
  have hK1 : W1.heap[w.heap.size]? = some (.deferred (some [])) := by
    rw [← hW1]; exact (heap_alloc_old _ _ (by simp)).trans (World.alloc_heap_new w _)
  have x1 : RelH w0 O ρ (BH (Bs [])) W1 Φ := by rw [← hW1]; exact (r.heap.allocObj rfl).allocObj rfl
  have hsz := r.heap.frame.size
  refine ⟨w.heap.size + 1, [{ target := .collected w.heap.size, args := #[] }], W1, { target := .fn (.func gf) lb, args := #[.func (.yield (w.heap.size + 1)) #[] #[]] }, W1, gf,
    #[.func (.yield (w.heap.size + 1)) #[] #[]] ++ lb, W1, ?_, ?_, fun _ _ => trivial, ?_, fun h => by simp [Fence.wide] at h, ?_⟩
  · rw [← hW1, hrec]; exact run_enterLoop_outer _ _ _ _ _
  · simp only [resolve, hg]
    simp [go_sem]
  · simp [invoke, go_sem, eg]
  · refine (hit (w.heap.size + 1)
      (fun pre W => (∃ ρ' Φ', (∀ j h, j < m → ρ j = some h → ρ' j = some h) ∧ (∀ j, (Bs pre).length ≤ j → ρ' j = none) ∧ RelH w0 O ρ' (BH (Bs pre)) W Φ') ∧ W.heap[w.heap.size + 1]? = some (.loop (rec .ready none)) ∧ W.heap[w.heap.size]? = some (.deferred (some [])))
      (fun pre W ⟨⟨ρ', Φ', q1, _, q3⟩, _⟩ => hK pre ρ' Φ' W q1 q3) ?_ W1 ⟨⟨ρ, Φ, fun _ _ _ h => h, hρ, x1⟩, hL1, hK1⟩).mono ?_
    · rintro pre x rest W hxs ⟨⟨ρ1, Φ1, q1, q2, q3⟩, hl, hk⟩
      have hlt : w.heap.size + 1 < W.heap.size := (Array.getElem?_eq_some_iff.1 hl).1
      have hy := run_yield (P := g.P) (args := #[enc x]) hl (by rw [hrec]; rfl)
      have hy : (Instr.yield (w.heap.size + 1) #[enc x]).run g.P W = .ok (.round (w.heap.size + 1) fn (a.tmps.setIfInBounds p (enc x)) A Bd) W := by rw [hrec] at hy; simpa using hy
      have hdx := hden x (by rw [hxs]; simp)
      have rA : RelA nT w0 O ρ1 (tget (mkT ((p, encS x) :: S))) (BH (Bs pre)) Φ1 { tmps := a.tmps.setIfInBounds p (enc x), defers := [] } W := by
        refine ⟨by simp [r.size], rfl, fun t => ?_, q3⟩
        have e : tget (mkT ((p, encS x) :: S)) t = if t = p then encS x else tget (mkT S) t := Tr.get_set _ _ _ _ _ (by omega)
        rw [e]
        by_cases ht : t = p
        · subst ht
          rw [if_pos rfl]
          have : (a.tmps.setIfInBounds t (enc x)).getD t undef = enc x := by
            have : t < a.tmps.size := by rw [r.size]; exact hp
            simp [this]
          show DenV w0 O ρ1 (encS x) ((a.tmps.setIfInBounds t (enc x)).getD t undef)
          rw [this]; exact hdx _ _ _
        · rw [if_neg ht]
          have : (a.tmps.setIfInBounds p (enc x)).getD t undef = a.tmps.getD t undef := by
            simp [Array.getElem?_setIfInBounds_ne (Ne.symm ht)]
          show DenV w0 O ρ1 (tget (mkT S) t) ((a.tmps.setIfInBounds p (enc x)).getD t undef)
          rw [this]
          have hv := r.tmps t
          rcases tget_mkT S t (fun y hy => (hS y hy).1) with e1 | ⟨y, h1, h2, h3⟩
          · rw [e1]; exact .inl rfl
          · rw [h3] at hv ⊢
            have hv' := denV_map (w0 := w0) (O := O) (ρ := ρ) (ρ1 := ρ1) (f := lowId m) (fun id h j a b => by
              unfold lowId at b
              split at b
              · simp at b; subst b; exact q1 _ _ ‹_› a
              · simp at b) hv
            rwa [(hS y h1).2] at hv'
      refine ⟨fn, _, A, Bd, hy, roundIn_of_wpIn hfn ?_⟩
      have hr := hround pre x rest hxs w0 O hG ρ1 Φ1 _ W (w.heap.size + 1) rA q2 (by omega) ⟨_, hl, rfl⟩
      refine wpIn_mono hr fun e a1 wa h => ?_
      cases e with
      | normal =>
        obtain ⟨hka, hbd⟩ := h
        have hla := hka.same _ _ hl rfl
        have hkaD := hka.same _ _ hk rfl
        have hlta : w.heap.size + 1 < wa.heap.size := (Array.getElem?_eq_some_iff.1 hla).1
        refine ⟨_, run_beginRound hla (by rw [hrec]), ?_⟩
        refine wpIn_mono (hbd _ rfl) fun e2 a2 w2 ⟨he2, hk2, ρ2, Φ2, p1, p2, p3⟩ => ?_
        subst he2
        have hl2 := hk2.same _ _ (World.putObj_heap_same hlta) rfl
        have hD2 := hk2.same _ _ ((World.putObj_heap_other (by omega)).trans hkaD) rfl
        have hend := run_endRound (P := g.P) none hl2
        rw [hrec] at hend
        refine ⟨_, _, hend, rfl, ⟨ρ2, Φ2, fun j h hj hh => p1 j h hj (q1 j h hj hh), p2, p3.putObj (by omega) hl2 rfl rfl⟩, ?_, ?_⟩
        · rw [World.putObj_heap_same (Array.getElem?_eq_some_iff.1 hl2).1, hrec]; rfl
        · exact (World.putObj_heap_other (by omega)).trans hD2
      | exit id => exact h.elim
      | goto id => exact h.elim
      | ret => exact h.elim
      | panic c => exact h.elim
      | outgrown => exact h.elim
    · rintro e W2 ⟨⟨v, rfl⟩, ⟨ρ2, Φ2, p1, p2, p3⟩, hl, hk⟩
      have hend := run_endLoop (P := g.P) hl (by rw [hrec]; simp)
      rw [hrec] at hend
      exact ⟨none, _, hend, rfl, w.heap.size, rfl, hsz, (World.putObj_heap_other (by omega)).trans hk, ρ2, Φ2, p1, p2, p3.putObj (by omega) hl rfl rfl⟩
end
end Go.Vx

/- A function that ranges over a function once. -/
namespace Go.Vx
open Go

/-- beside other deferred calls -/
def withD (ds ds' : List Deferred) (Q : Exit → Act → World → Prop) : Exit → Act → World → Prop := fun e a' w' => ∃ pre, a'.defers = pre ++ ds ∧ Q e { a' with defers := pre ++ ds' } w'
theorem put_defers (a : Act) (dst : Option Tmp) (v : Value) (ds : List Deferred) : ({ a with defers := ds } : Act).put dst v = { a.put dst v with defers := ds } := by cases dst <;> rfl
theorem put_defers' (a : Act) (dst : Option Tmp) (v : Value) : (a.put dst v).defers = a.defers := by cases dst <;> rfl
theorem wpOps_defers {P : Program} {ops : Array Oper} {Q : Exit → Act → World → Prop} (hQ : ¬ LetsOut Q) (ds ds' : List Deferred) : ∀ (s : List Nat) (a : Act) (w : World) (pre : List Deferred), a.defers = pre ++ ds' →
    wpOps P ops Q s a w → wpOps P ops (withD ds ds' Q) s { a with defers := pre ++ ds } w
  | [], a, w, pre, ha, h => ⟨pre, rfl, by
    have h : Q .normal a w := h
    have e : a = { a with defers := pre ++ ds' } := by rw [← ha]
    rw [e] at h; exact h⟩
  | i :: s, a, w, pre, ha, h => by
    simp only [wpOps] at h ⊢
    cases ho : ops[i]? with
    | none => rw [ho] at h; exact wpOps_defers hQ ds ds' s a w pre ha h
    | some o =>
      rw [ho] at h
      simp only at h ⊢
      have hput : ∀ v w', wpOps P ops Q s (a.put o.dst v) w' → wpOps P ops (withD ds ds' Q) s (({ a with defers := pre ++ ds } : Act).put o.dst v) w' := fun v w' h => by
        rw [put_defers]; exact wpOps_defers hQ ds ds' s _ _ pre ((put_defers' a o.dst v).trans ha) h
      split at h
      · rename_i hw
        rw [if_pos hw]
        rcases h with h | ⟨_, h⟩
        · left
          unfold Oper.wp at h ⊢
          rw [show (execOp ({ a with defers := pre ++ ds } : Act).eval o) = execOp a.eval o from rfl]
          generalize hrr : (execOp a.eval o).run P w = r at h
          unfold Oper.upon at h ⊢
          split at h
          · exact hput _ _ h
          · exact hput _ _ h
          · rename_i d w'
            show wpOps P ops (withD ds ds' Q) s (({ a with defers := d :: (pre ++ ds) } : Act).put o.dst undef) w'
            rw [put_defers] at h ⊢
            have := wpOps_defers hQ ds ds' s _ w' (d :: pre) (by simp [ha]) h
            simpa using this
          · refine Calls.mono h fun e w' he => ?_
            cases e with
            | returned v => exact hput _ _ he
            | panicked c => exact ⟨pre, rfl, by
                have e : a = { a with defers := pre ++ ds' } := by rw [← ha]
                have he : Q (.panic c) a w' := he
                rw [e] at he; exact he⟩
            | outgrown => exact absurd he hQ
          · intro c cs
            obtain ⟨v, w', hh, hs⟩ := h c cs
            exact ⟨v, w', hput _ _ hh, hs⟩
          · exact ⟨pre, rfl, by
                have e : a = { a with defers := pre ++ ds' } := by rw [← ha]
                rw [e] at h; exact h⟩
          · exact h.elim
        · exact absurd h hQ
      · rename_i hw
        rw [if_neg hw]
        exact hput _ _ h

section
variable {w0 : World} {O : Own} {nT : Nat}
/-- a region, in the text's order, beside other deferred calls -/
theorem region_defers {g : Ctx} (hc : CtxOk g w0 O) {n : Nat} {pl : List Plan} {id : Nat} {ops : Array Oper} {T : Tmps} {H : Heap} {o : Out} (hn : nT < 65535) (h : exec g (LoopGood g) (n + 1) nT pl (.region id ops false) T H = some o) (hC : AllC o.C)
    {ρ : Rho} {Φ : Nat → Foot} {a : Act} {w : World} (x : RelA nT w0 O ρ (tget T) (hget H) Φ a w) (hf : ∀ id, H.nx ≤ id → id < o.H.nx → ρ id = none) (ds : List Deferred) :
    o.e = .normal ∧ H.nx ≤ o.H.nx ∧ (Code.region id ops false).wp g.P (fun e' a' w' => e' = .normal ∧ a'.defers = ds ∧ Done nT w0 O ρ (tget o.T) (hget o.H) H.nx o.H.nx { a' with defers := [] } w') { a with defers := ds } w := by
  unfold exec at h
  have hK := callOf_ok hc (exec_ok hc n)
  simp only at h
  split at h
  · simp at h
  · rename_i hsh
    split at h
    · rename_i s hs
      simp only [Option.some.injEq] at h; subst h
      obtain ⟨_, S, pp, d, r, e1, e2⟩ := run_ok hc.glob hc.sums hK hn hsh hs hC
      have eT : (S 0).T = T := by rw [e1]
      have eH : (S 0).H = H := by rw [e1]
      have hnx := r.nx_le (Nat.zero_le ops.size) (Nat.le_refl _)
      rw [eH, e2] at hnx
      refine ⟨rfl, hnx, ?_⟩
      have hQ : ∀ a' w', Done nT w0 O ρ (tget (S ops.size).T) (hget (S ops.size).H) (S 0).H.nx (S ops.size).H.nx a' w' →
          (fun e' a' w' => e' = Exit.normal ∧ Done nT w0 O ρ (tget s.T) (hget s.H) H.nx s.H.nx a' w') Exit.normal a' w' := fun a' w' h => by
        rw [e2, eH] at h; exact ⟨rfl, h⟩
      have h1 : wpOps g.P ops (fun e' a' w' => e' = Exit.normal ∧ Done nT w0 O ρ (tget s.T) (hget s.H) H.nx s.H.nx a' w') (List.range ops.size) a w := by
        rw [List.range_eq_range']
        exact r.text hQ ops.size 0 (by omega) ρ Φ a w (Ext.refl ρ) (fun _ h => absurd rfl h) (by rw [eT, eH]; exact x) (by rw [eH, e2]; exact hf)
      have h2 := wpOps_defers (fun h => by obtain ⟨_, _, h, _⟩ := h; cases h) ds [] _ _ _ [] (by simpa using x.defers) h1
      refine wp_mono (wp_region h2) fun e a' w' ⟨pre, p1, p2, p3⟩ => ⟨p2, ?_⟩
      have hp : pre = [] := by
        obtain ⟨_, _, _, _, q⟩ := p3
        simpa using q.defers
      subst hp
      exact ⟨by simpa using p1, by simpa using p3⟩
    · simp at h
end

/-! ### the function -/
noncomputable def runP (g : Ctx) (n nT : Nat) (pl : List Plan) (c0 c1 c2 : Code) (args : List SV) (B : List Body) (keep ids : List Nat) : Option (List SV × List (Option Body) × List Prop) :=
  match exec g (LoopGood g) n nT pl c0 (entryT args 0) (mkB B) with
  | some ⟨.normal, T1, H1, pl1, C1⟩ => match exec g (LoopGood g) n nT pl1 c1 T1 H1 with
    | some ⟨.normal, T2, H2, pl2, C2⟩ => match exec g (LoopGood g) n nT pl2 c2 T2 H2 with
      | some ⟨.normal, T3, H3, _, C3⟩ => some (keep.map fun t => mapC (idx ids) (tget T3 t), ids.map fun id => (hget H3 id).map (mapB (idx ids)), C1 ++ (C2 ++ C3))
      | _ => none
    | _ => none
  | _ => none
noncomputable def runE (g : Ctx) (n nT : Nat) (i : Nat) (ops : Array Oper) (S : List (Nat × SV)) (B : List Body) (t : Nat) (ids : List Nat) : Option (SV × List (Option Body) × List Prop) :=
  match exec g (LoopGood g) (n + 1) nT [] (.region i ops false) (mkT S) (mkB B) with
  | some ⟨_, T, H, _, C⟩ => some (mapC (idx ids) (tget T t), ids.map fun id => (hget H id).map (mapB (idx ids)), C)
  | none => none

section
variable {w0 : World} {O : Own}
theorem ids_body {H : Nat → Option Body} {ids : List Nat} {B' : List Body} (hb : ids.map (fun id => (H id).map (mapB (idx ids))) = B'.map some) : ids.length = B'.length ∧ ∀ j, renH H ids j = BH B' j := by
  refine ⟨by have := congrArg List.length hb; simpa using this, fun j => ?_⟩
  unfold renH BH
  have := congrArg (fun l => l[j]?) hb
  simp only [List.getElem?_map] at this
  cases hj : ids[j]? with
  | none =>
    rw [hj] at this
    cases hb' : B'[j]? with
    | none => rfl
    | some b => rw [hb'] at this; simp at this
  | some id =>
    rw [hj] at this
    cases hb' : B'[j]? with
    | none => rw [hb'] at this; simp at this
    | some b => rw [hb'] at this; simpa using this

/-- S's slots name low chunks alone -/
theorem relA_low {nT m : Nat} {S : List (Nat × SV)} {B B' : List Body} {ρ ρ' : Rho} {Φ Φ' : Nat → Foot} {a : Act} {w w' : World} (hS : ∀ y ∈ S, y.1 < 65535 ∧ mapC (lowId m) y.2 = y.2) (r : RelA nT w0 O ρ (tget (mkT S)) (BH B) Φ a w)
    (h : ∀ j h, j < m → ρ j = some h → ρ' j = some h) (x : RelH w0 O ρ' (BH B') w' Φ') : RelA nT w0 O ρ' (tget (mkT S)) (BH B') Φ' a w' := by
  refine ⟨r.size, r.defers, fun t => ?_, x⟩
  have hv := r.tmps t
  rcases tget_mkT S t (fun y hy => (hS y hy).1) with e1 | ⟨y, h1, h2, h3⟩
  · rw [e1]; exact .inl rfl
  · rw [h3] at hv ⊢
    have hv' := denV_map (w0 := w0) (O := O) (ρ := ρ) (ρ1 := ρ') (f := lowId m) (fun id hd j a b => by
      unfold lowId at b
      split at b
      · simp at b; subst b; exact h _ _ ‹_› a
      · simp at b) hv
    rwa [(hS y h1).2] at hv'

theorem rangeFn_ok {α : Type} {g : Ctx} (hU : CtxU g) {f : FuncId} {fn : Func} {c0 c1 c2 : Code} {gop : Operand} {p k i t : Nat} {A Bd : Code} {ops : Array Oper} (hf : g.P.funcs[f]? = some fn) (hname : (fn.name == "runtime.NumGoroutine") = false)
    (hb : fn.body = some (.seq c0 (.seq c1 (.seq (.seq c2 (.block k (.rangeFunc gop #[p] A Bd))) (.seq (.region i ops false) .ret))))) (hn : fn.ntmps < 65535) (hres : fn.results = #[.tmp t]) (hp : p < fn.ntmps)
    {args : List SV} {B : List Body} (hargs : args.length ≤ fn.ntmps) (hB : B.length < 65535)
    {n : Nat} {pl : List Plan} {keep ids : List Nat} {vals : List SV} {C : List Prop} {gf : FuncId} {enc : α → Value} {encS : α → SV} {xs : List α} {Bs : List α → List Body} {m : Nat} {S : List (Nat × SV)}
    (hpre : runP g n fn.ntmps pl c0 c1 c2 args B keep ids = some (vals, (Bs []).map some, C)) (hC : AllC C) (hnd : ids.Nodup) (hm : ∀ j, j < m → j < B.length → ids[j]? = some j) (hmB : B.length ≤ m) (hk : ∀ k ∈ keep, k < 65535)
    (hSub : ∀ t, tget (mkT S) t = tget (mkT (keep.zip vals)) t ∨ tget (mkT S) t = .any)
    (hround : ∀ pre x rest, xs = pre ++ x :: rest → RoundOk g fn.ntmps A Bd ((p, encS x) :: S) (Bs pre) (Bs (pre ++ [x])) m)
    (hden : ∀ x, x ∈ xs → ∀ w0 O ρ, DenV w0 O ρ (encS x) (enc x)) (hS : ∀ y ∈ S, y.1 < 65535 ∧ mapC (lowId m) y.2 = y.2)
    (eg : ∀ args w, (callFunc gf args).run g.P w = .ok (.enter gf args) w)
    (hK : ∀ w0 O, GlobOk g w0 O → ∀ ρ Φ a w, RelA fn.ntmps w0 O ρ (tget (mkT (keep.zip vals))) (BH (Bs [])) Φ a w → ∃ lb, a.eval gop = .func (.func gf) #[] lb ∧ ∃ K : World → Prop,
      (∀ pre ρ' Φ' W, (∀ j h, j < m → ρ j = some h → ρ' j = some h) → RelH w0 O ρ' (BH (Bs pre)) W Φ' → K W) ∧ IterOk g.P gf lb enc xs K)
    {n2 : Nat} {ids2 : List Nat} {out : OpOut} {L : List (Option Body)} {C2 : List Prop} (hB2 : (Bs xs).length < 65535) (hpost : runE g n2 fn.ntmps i ops S (Bs xs) t ids2 = some (out.val, L, C2)) (hC2 : AllC C2) (hnd2 : ids2.Nodup) (hm2 : ∀ j, j < B.length → ids2[j]? = some j)
    (hl2 : ids2.length = B.length + out.new.length) (hL : ∀ j, j < B.length + out.new.length → (L[j]?).getD none = afterH B out j) (hu : ∀ y ∈ out.upd, y.1 < B.length) :
    FnOk g f args B out := by
  intro w0 O hG ρ Φ vs w hd x hr
  refine .inl ⟨fn, hf, hname, by rw [hb]; rfl, ?_⟩
  unfold runP at hpre
  split at hpre
  · rename_i T1 H1 pl1 C1 h1
    split at hpre
    · rename_i T2 H2 pl2 C2' h2
      split at hpre
      · rename_i T3 H3 pl3 C3 h3
        simp only [Option.some.injEq, Prod.mk.injEq] at hpre
        obtain ⟨hv, hbs, rfl⟩ := hpre
        obtain ⟨k1, k23⟩ := hC.append
        obtain ⟨k2, k3⟩ := k23.append
        have s1 := exec_ok (hU w0 O hG) n _ _ _ _ _ _ hn h1 k1
        have s2 := exec_ok (hU w0 O hG) n _ _ _ _ _ _ hn h2 k2
        have s3 := exec_ok (hU w0 O hG) n _ _ _ _ _ _ hn h3 k3
        have x' := x
        rw [← hget_mkB hB] at x'
        have hr0 : ∀ id, (mkB B).nx ≤ id → ρ id = none := fun id h => hr id h
        refine callsIn_wide (n := 0) |>.1 ?_
        refine callsIn_of_wp_marks hf hb trivial ?_ rfl
        refine wpIn_wide.2 ?_
        have s123 := Sim.seq s1 (Sim.seq s2 s3)
        have hrel := entry_rel hn hargs hd x'
        refine wp_seq (wp_mono (wpL_wp (s1.2 ρ Φ _ w hrel fun id h _ => hr0 id h)) fun e a1 w1 ⟨he, ρ1, Φ1, p1, p2, p3⟩ => ?_)
        subst he
        have hr1 : ∀ id, H1.nx ≤ id → ρ1 id = none := fun id h => by
          by_cases e : ρ1 id = ρ id
          · rw [e]; exact hr0 id (Nat.le_trans s1.1 h)
          · have : id < H1.nx := (p2 id e).2; omega
        refine wp_seq (wp_mono (wpL_wp (s2.2 ρ1 Φ1 a1 w1 p3 fun id h _ => hr1 id h)) fun e a2 w2 ⟨he, ρ2, Φ2, q1, q2, q3⟩ => ?_)
        subst he
        have hr2 : ∀ id, H2.nx ≤ id → ρ2 id = none := fun id h => by
          by_cases e : ρ2 id = ρ1 id
          · rw [e]; exact hr1 id (Nat.le_trans s2.1 h)
          · have : id < H2.nx := (q2 id e).2; omega
        refine wp_seq (wp_seq (wp_mono (wpL_wp (s3.2 ρ2 Φ2 a2 w2 q3 fun id h _ => hr2 id h)) fun e a3 w3 ⟨he, ρ3, Φ3, u1, u2, u3⟩ => ?_))
        subst he
        obtain ⟨hlb, hbody⟩ := ids_body hbs
        -- the chunks under 0, 1, ..
        have r4 : RelA fn.ntmps w0 O (inR ρ3 ids) (tget (mkT (keep.zip vals))) (BH (Bs [])) (inF Φ3 ids) a3 w3 := by
          refine ⟨u3.size, u3.defers, fun t => ?_, relH_funext hbody (relH_ren u3.heap hnd)⟩
          have hz : ∀ y ∈ keep.zip vals, y.1 < 65535 ∧ y.2 = mapC (idx ids) (tget T3 y.1) := fun y hy => by
            rw [← hv] at hy
            rw [List.mem_iff_getElem?] at hy
            obtain ⟨i, hi⟩ := hy
            rw [List.getElem?_zip_eq_some] at hi
            obtain ⟨i1, i2⟩ := hi
            refine ⟨hk _ (List.mem_of_getElem? i1), ?_⟩
            rw [List.getElem?_map, i1] at i2
            simpa using i2.symm
          rcases tget_mkT _ t fun y hy => (hz y hy).1 with e | ⟨y, h1, h2, h3⟩
          · rw [e]; exact .inl rfl
          · rw [h3, (hz y h1).2, h2]
            exact denV_map (inR_idx ρ3 ids) (u3.tmps t)
        obtain ⟨lb, hg, K, hKK, hit⟩ := hK w0 O hG _ _ _ _ r4
        have r5 := r4.sub hSub
        have hfr : ∀ j, (Bs []).length ≤ j → inR ρ3 ids j = none := fun j hj => by simp [inR, List.getElem?_eq_none (show ids.length ≤ j by omega)]
        refine wp_block ((wpIn_wide (n := 0)).1 (wpIn_mono (rangeFunc_ok hn hround hden hS hp hG r5 hfr hg eg hKK hit) fun e a4 w4 ⟨he, D, ha4, hD0, hD, ρ4, Φ4, v1, v2, v3⟩ => ?_))
        subst he
        have r6 : RelA fn.ntmps w0 O ρ4 (tget (mkT S)) (BH (Bs xs)) Φ4 a3 w4 := relA_low hS r5 v1 v3
        unfold runE at hpost
        split at hpost
        · rename_i e5 T5 H5 pl5 C5 h5
          simp only [Option.some.injEq, Prod.mk.injEq] at hpost
          obtain ⟨hval, hLL, rfl⟩ := hpost
          have r7 := r6
          rw [← hget_mkB hB2] at r7
          have ha4' : a4 = { a3 with defers := [{ target := .collected D, args := #[] }] } := by rw [ha4, r4.defers]
          subst ha4'
          have r8 : RelA fn.ntmps w4 (baseO O (hget (mkB (Bs xs))) Φ4) ρ4 (tget (mkT S)) (hget (mkB (Bs xs))) Φ4 a3 w4 :=
            ⟨r7.size, r7.defers, fun t => denV_cong (w0 := w0) (O := O) (O1 := baseO O (hget (mkB (Bs xs))) Φ4) rfl (r7.tmps t), r7.heap.base⟩
          obtain ⟨z1, z2, z3⟩ := region_defers (hU w4 (baseO O (hget (mkB (Bs xs))) Φ4) (glob_cong (O := O) rfl hG)) hn h5 hC2 r8 (fun id h _ => v2 id h) [{ target := .collected D, args := #[] }]
          refine wp_seq (wp_mono z3 fun e a5 w5 ⟨he, hd5, ρ5, Φ5, y1, y2, y3⟩ => ?_)
          subst he
          refine wp_ret ?_
          have hD5 := y3.heap.frame.others.same D _ hD rfl
          have x5 := r7.heap.back y3.heap
          have x6 := x5.putObj (o' := .deferred none) hD0 hD5 rfl rfl
          show LeavesInM Fence.wide 0 g.P fn a5.tmps _ a5.defers .returning w5
          rw [hd5]
          refine ⟨by simp, .inl ⟨D, _, rfl, run_takeDeferred hD5, ?_⟩⟩
          refine ⟨a5.tmps.getD t undef, results_tmp hres _ _ _, _, rfl, inR ρ5 ids2, inF Φ5 ids2, ?_, fun j h hh => ?_, fun j hj => ?_, ?_⟩
          · rw [← hval]
            exact denV_map (inR_idx ρ5 ids2) (denV_cong (w0 := w4) (O := baseO O (hget (mkB (Bs xs))) Φ4) (O1 := O) rfl (y3.tmps t))
          · by_cases hj : j < B.length
            · simp only [inR, hm2 j hj, Option.bind_some]
              exact y1 j h (v1 j h (by omega) (by simp only [inR, hm j (by omega) hj, Option.bind_some]; exact u1 _ _ (q1 _ _ (p1 _ _ hh))))
            · rw [hr j (by omega)] at hh; simp at hh
          · simp [inR, List.getElem?_eq_none (show ids2.length ≤ j by omega)]
          · refine relH_funext (fun j => ?_) (relH_ren x6 hnd2)
            rcases Nat.lt_or_ge j ids2.length with hj | hj
            · rw [← hL j (by omega), ← hLL, List.getElem?_map]
              unfold renH
              rw [List.getElem?_eq_getElem hj]; simp
            · unfold renH afterH newH
              rw [List.getElem?_eq_none hj, newAll_get, if_neg (by omega)]
              simp only [Option.bind_none, Option.map_none]
              rw [updAll_far out.upd (BH B) (fun y hy => by have := hu y hy; omega)]
              simp [BH, List.getElem?_eq_none (show B.length ≤ j by omega)]
        · simp at hpost
      · simp at hpre
    · simp at hpre
  · simp at hpre
end
end Go.Vx

/- Events: all that a Recorder has logged. -/
namespace Go.Vx
open Go

/-- the parts of a function that ranges over a function once -/
structure RParts where
  c0 : Code
  c1 : Code
  c2 : Code
  k : Nat
  g : Operand
  p : Nat
  A : Code
  Bd : Code
  i : Nat
  ops : Array Oper
def rparts (c : Option Code) : RParts :=
  match c with
  | some (.seq c0 (.seq c1 (.seq (.seq c2 (.block k (.rangeFunc g ps A Bd))) (.seq (.region i ops _) _)))) => ⟨c0, c1, c2, k, g, ps.getD 0 0, A, Bd, i, ops⟩
  | _ => ⟨.skip, .skip, .skip, 0, .tmp 0, 0, .skip, .skip, 0, #[]⟩
def RParts.code (r : RParts) : Code := .seq r.c0 (.seq r.c1 (.seq (.seq r.c2 (.block r.k (.rangeFunc r.g #[r.p] r.A r.Bd))) (.seq (.region r.i r.ops false) .ret)))

section
variable {w0 : World} {O : Own} {ρ : Rho} {w : World} {H : Nat → Option Body} {Φ : Nat → Foot}

/-- one that leaves the log as it is, and hands back rows of its own -/
theorem FnOk.logRows {g : Ctx} {f : FuncId} {args : List SV} {l : List (List Int)} {ks : List IntKind} {l' : List (List Int)} {C : List Prop}
    (h : FnOk g f args [.cells [.int .i64 l.length, .own 1], .rows [.i64, .i64] l] { val := .own 2, new := [.rows ks l'] }) : FnOk g f args [.log l] { val := .own 1, new := [.rows ks l'], C } := by
  intro w0 O hG ρ Φ vs w d x hr
  have h1 : ρ 1 = none := hr 1 (by simp)
  obtain ⟨loc, len, cap, Φ1, x1⟩ := x.unlog (id := 0) (k := 1) (l := l) rfl h1
  obtain ⟨hd, hr0, hh⟩ := x.holds 0 (.log l) rfl
  obtain ⟨b, base, rfl, _⟩ := holds_log hh
  have x1 := relH_funext (H' := BH [.cells [.int .i64 l.length, .own 1], .rows [.i64, .i64] l]) (fun j => by
    match j with
    | 0 => rfl
    | 1 => rfl
    | j + 2 => simp [upH, BH]) x1
  have hext : Ext ρ (upR ρ 1 (.sl loc len cap)) := Ext.up h1 _
  refine (h w0 O hG _ Φ1 vs w (DenT.mono hext _ _ d) x1 (fun j hj => by
    simp at hj; simp [upR, show j ≠ 1 by omega]; exact hr j (by simp; omega))).mono fun u w' ⟨ρ2, Φ2, q1, q2, q3, q4⟩ => ?_
  have hr2 : ρ2 0 = some (.at b base) := q2 0 _ (hext 0 _ hr0)
  have x2 := q4.tolog (id := 0) (k := 1) (l := l) rfl rfl hr2
  refine ⟨inR ρ2 [0, 2], _, ?_, fun j hd hj => ?_, fun j hj => ?_, relH_funext (fun j => ?_) (relH_ren x2 (ids := [0, 2]) (by simp))⟩
  · have := denV_map (w0 := w0) (O := O) (inR_idx ρ2 [0, 2]) q1
    simpa [mapC, idx, idxF] using this
  · by_cases e : j = 0
    · subst e; simp [inR, q2 0 _ (hext 0 _ hj)]
    · rw [hr j (by simp; omega)] at hj; simp at hj
  · simp at hj
    simp [inR, List.getElem?_eq_none (show ([0, 2] : List Nat).length ≤ j by simpa using hj)]
  · match j with
    | 0 => simp [renH, upH, afterH, newH, newAll, updAll, mapB, BH]
    | 1 => simp [renH, upH, afterH, newH, newAll, updAll, mapB, BH]
    | j + 2 => simp [renH, upH, afterH, newH, newAll, updAll, BH]

def evV (r : List Int) : Value := .agg #[.int .i64 (r.getD 0 0), .int .i64 (r.getD 1 0)]
def evS (r : List Int) : SV := .agg [.int .i64 (r.getD 0 0), .int .i64 (r.getD 1 0)]
/-- the Recorder's log, as the iterator sees it -/
structure LogK (bR oR bN oN b base : Nat) (b1 o1 cap : Nat) (xs : List (List Int)) (W : World) : Prop where
  r : W.cell? ⟨bR, oR, none⟩ = some (.pointer (some ⟨b, base, none⟩))
  n : W.cell? ⟨bN, oN, none⟩ = some (.int .i64 0)
  s : W.cell? ⟨b, base + 1, none⟩ = some (.slice (some ⟨b1, o1, none⟩) xs.length cap)
  c0 : ∀ j, j < xs.length → W.cell? ⟨b1, o1 + j * 2, none⟩ = some (.int .i64 ((xs.getD j []).getD 0 0))
  c1 : ∀ j, j < xs.length → W.cell? ⟨b1, o1 + j * 2 + 1, none⟩ = some (.int .i64 ((xs.getD j []).getD 1 0))
/-- .. that has none -/
structure LogN (bR oR bN oN b base : Nat) (W : World) : Prop where
  r : W.cell? ⟨bR, oR, none⟩ = some (.pointer (some ⟨b, base, none⟩))
  n : W.cell? ⟨bN, oN, none⟩ = some (.int .i64 0)
  s : W.cell? ⟨b, base + 1, none⟩ = some (.slice none 0 0)
/-- a closure that goes through the events -/
structure SinceOk (P : Program) (gf : FuncId) : Prop where
  has : ∀ (bR oR bN oN b base b1 o1 cap : Nat) (xs : List (List Int)), xs.length ≤ 9223372036854775807 → IterOk P gf #[.pointer (some ⟨bR, oR, none⟩), .pointer (some ⟨bN, oN, none⟩)] evV xs (LogK bR oR bN oN b base b1 o1 cap xs)
  non : ∀ (bR oR bN oN b base : Nat), IterOk P gf #[.pointer (some ⟨bR, oR, none⟩), .pointer (some ⟨bN, oN, none⟩)] evV [] (LogN bR oR bN oN b base)

theorem holdsC {cs : List SV} {id : Nat} (x : RelH w0 O ρ H w Φ) (hb : H id = some (.cells cs)) {b base : Nat} (hr : ρ id = some (.at b base)) : CellsAt w0 O ρ w b base cs := by
  obtain ⟨hd, h1, h2⟩ := x.holds id _ hb
  rw [hr] at h1; cases h1
  exact h2.2.2
theorem ptrD {id off : Nat} {v : Value} (h : DenV w0 O ρ (.ptr id off) v) : ∃ hd b base, ρ id = some hd ∧ hd.loc = some (b, base) ∧ v = .pointer (some ⟨b, base + off, none⟩) := by
  have h := (denV_cell h (by simp) rfl).1
  simp only [DenC] at h
  obtain ⟨hd, b, base, h1, h2, h3⟩ := h
  simp at h3; exact ⟨hd, b, base, h1, h2, h3⟩
/-- cells by a pointer's chunk -/
theorem hd_cells {cs : List SV} {id : Nat} (x : RelH w0 O ρ H w Φ) (hb : H id = some (.cells cs)) {hd : Hd} (hr : ρ id = some hd) {b base : Nat} (hl : hd.loc = some (b, base)) : CellsAt w0 O ρ w b base cs := by
  obtain ⟨hd', h1, h2⟩ := x.holds id _ hb
  rw [hr] at h1; cases h1
  cases hd with
  | «at» b' base' => simp only [Hd.loc, Option.some.injEq, Prod.mk.injEq] at hl; obtain ⟨rfl, rfl⟩ := hl; exact h2.2.2
  | sl loc len cap => exact h2.elim

def evB (n : Int) (l : List (List Int)) (pre : List (List Int)) : List Body :=
  [.cells [.int .i64 n, .own 1], .rows [.i64, .i64] l, .cells [.ptr 0 0], .cells [.lit .i64 0], .cells [.own 5], .rows [.i64, .i64] pre]

theorem rows_cell {l : List (List Int)} (h : ∀ r ∈ l, r.length = 2) {j : Nat} (hj : j < l.length) :
    (cellsOf (.rows [.i64, .i64] l))[j * 2]? = some (.int .i64 ((l.getD j []).getD 0 0)) ∧ (cellsOf (.rows [.i64, .i64] l))[j * 2 + 1]? = some (.int .i64 ((l.getD j []).getD 1 0)) := by
  have hlen : ∀ r ∈ l.map (fun r => List.zipWith SV.int [.i64, .i64] r), r.length = 2 := fun r hr => by
    obtain ⟨x, hx, rfl⟩ := List.mem_map.1 hr
    simp [h x hx]
  have hx := h l[j] (List.getElem_mem hj)
  obtain ⟨a, b, e⟩ : ∃ a b, l[j] = [a, b] := by
    match hl : l[j], hx with
    | [a, b], _ => exact ⟨a, b, rfl⟩
  have e1 := flat_get _ 2 j 0 hlen (by omega)
  have e2 := flat_get _ 2 j 1 hlen (by omega)
  simp only [cellsOf]
  refine ⟨?_, ?_⟩
  · rw [← Nat.add_zero (j * 2), e1]; simp [hj, e]
  · rw [e2]; simp [hj, e]

theorem func_den {f : FuncId} {cap : List SV} {v : Value} (h : DenV w0 O ρ (.func f [] cap) v) : ∃ c : Array Value, v = .func (.func f) #[] c ∧ DenT w0 O ρ cap c.toList := by
  have h := (denV_cell h (by simp) rfl).1
  simp only [DenC, DenT] at h
  obtain ⟨a, c, h1, h2, h3⟩ := h
  simp at h1
  have : a = #[] := by simpa using h2
  subst this
  exact ⟨c, h1, h3⟩

/-- what the iterator sees of it stands -/
theorem logK_of {n : Int} {l : List (List Int)} {ρ' : Rho} {Φ' : Nat → Foot} {W : World} (x : RelH w0 O ρ' H W Φ') (b0 : H 0 = some (.cells [.int .i64 n, .own 1])) (hb1 : H 1 = some (.rows [.i64, .i64] l)) (b2' : H 2 = some (.cells [.ptr 0 0])) (b3' : H 3 = some (.cells [.lit .i64 0])) {h2 h3 h0 : Hd} {bR oR bN oN b base b1 o1 len cap : Nat} (r2 : ρ' 2 = some h2) (l2 : h2.loc = some (bR, oR)) (r3 : ρ' 3 = some h3) (l3 : h3.loc = some (bN, oN))
    (r0 : ρ' 0 = some h0) (l0 : h0.loc = some (b, base)) (r1 : ρ' 1 = some (.sl (some (b1, o1)) len cap)) (hl : ∀ r ∈ l, r.length = 2) : LogK bR (oR + 0) bN (oN + 0) b base b1 o1 cap l W := by
  have c2 := hd_cells x (id := 2) (cs := [.ptr 0 0]) b2' r2 l2 0 _ rfl
  have c3 := hd_cells x (id := 3) (cs := [.lit .i64 0]) b3' r3 l3 0 _ rfl
  have c0 := hd_cells x (id := 0) (cs := [.int .i64 n, .own 1]) b0 r0 l0 1 _ rfl
  obtain ⟨v2, a1, a2, _⟩ := c2
  obtain ⟨v3, b1', b2, _⟩ := c3
  obtain ⟨v0, d1, d2, _⟩ := c0
  obtain ⟨hd', e1, e2⟩ := x.holds 1 (.rows [.i64, .i64] l) hb1
  rw [r1] at e1; cases e1
  obtain ⟨g1, _, _, g4⟩ := e2
  simp only [DenC] at a2 b2 d2
  obtain ⟨hh, q1, q2, q3, q4, q5⟩ := a2
  rw [r0] at q3; cases q3
  rw [l0] at q4; cases q4
  simp at q5; subst q5
  obtain ⟨q5, _⟩ := b2
  simp at q5; subst q5
  obtain ⟨loc, len', cap', p1, p2⟩ := d2
  rw [r1] at p1; cases p1
  simp at p2; subst p2
  have hlen : len = l.length := g1
  subst hlen
  refine ⟨a1, b1', d1, fun j hj => ?_, fun j hj => ?_⟩
  · obtain ⟨v, u1, u2, _⟩ := g4.2.1 (j * 2) _ (rows_cell hl hj).1
    simp only [DenC] at u2
    obtain ⟨u2, _⟩ := u2
    simp at u2; subst u2; simpa [adr] using u1
  · obtain ⟨v, u1, u2, _⟩ := g4.2.1 (j * 2 + 1) _ (rows_cell hl hj).2
    simp only [DenC] at u2
    obtain ⟨u2, _⟩ := u2
    simp at u2; subst u2; simpa [adr, Nat.add_assoc] using u1

theorem logN_of {n : Int} {l : List (List Int)} {ρ' : Rho} {Φ' : Nat → Foot} {W : World} (x : RelH w0 O ρ' H W Φ') (b0 : H 0 = some (.cells [.int .i64 n, .own 1])) (hb1 : H 1 = some (.rows [.i64, .i64] l)) (b2' : H 2 = some (.cells [.ptr 0 0])) (b3' : H 3 = some (.cells [.lit .i64 0])) {h2 h3 h0 : Hd} {bR oR bN oN b base len cap : Nat} (r2 : ρ' 2 = some h2) (l2 : h2.loc = some (bR, oR)) (r3 : ρ' 3 = some h3) (l3 : h3.loc = some (bN, oN))
    (r0 : ρ' 0 = some h0) (l0 : h0.loc = some (b, base)) (r1 : ρ' 1 = some (.sl none len cap)) : l = [] ∧ LogN bR (oR + 0) bN (oN + 0) b base W := by
  have c2 := hd_cells x (id := 2) (cs := [.ptr 0 0]) b2' r2 l2 0 _ rfl
  have c3 := hd_cells x (id := 3) (cs := [.lit .i64 0]) b3' r3 l3 0 _ rfl
  have c0 := hd_cells x (id := 0) (cs := [.int .i64 n, .own 1]) b0 r0 l0 1 _ rfl
  obtain ⟨v2, a1, a2, _⟩ := c2
  obtain ⟨v3, b1', b2, _⟩ := c3
  obtain ⟨v0, d1, d2, _⟩ := c0
  obtain ⟨hd', e1, e2⟩ := x.holds 1 (.rows [.i64, .i64] l) hb1
  rw [r1] at e1; cases e1
  obtain ⟨g1, g2, _, g4⟩ := e2
  simp only [DenC] at a2 b2 d2
  obtain ⟨hh, q1, q2, q3, q4, q5⟩ := a2
  rw [r0] at q3; cases q3
  rw [l0] at q4; cases q4
  simp at q5; subst q5
  obtain ⟨q5, _⟩ := b2
  simp at q5; subst q5
  obtain ⟨loc, len', cap', p1, p2⟩ := d2
  rw [r1] at p1; cases p1
  simp at p2; subst p2
  have hlen : len = l.length := g1
  have hcap : cap = 0 := g4.1
  have hl0 : l.length = 0 := by omega
  subst hcap
  have : len = 0 := by omega
  subst this
  exact ⟨List.eq_nil_of_length_eq_zero hl0, a1, b1', d1⟩

structure LogH (n : Int) (l : List (List Int)) (H : Nat → Option Body) : Prop where
  b0 : H 0 = some (.cells [.int .i64 n, .own 1])
  b1 : H 1 = some (.rows [.i64, .i64] l)
  b2 : H 2 = some (.cells [.ptr 0 0])
  b3 : H 3 = some (.cells [.lit .i64 0])
/-- the closure of a log goes through its events, as long as it stands -/
theorem since_K {P : Program} {gf : FuncId} (hs : SinceOk P gf) {n : Int} {l : List (List Int)} (hrow2 : ∀ r ∈ l, r.length = 2) (hfit : Fits .i64 (l.length : Int)) (hH : LogH n l H) (x : RelH w0 O ρ H w Φ) {v : Value} (t9 : DenV w0 O ρ (.func gf [] [.ptr 2 0, .ptr 3 0]) v) :
    ∃ lb, v = .func (.func gf) #[] lb ∧ ∃ K : World → Prop, (∀ (ρ' : Rho) (H' : Nat → Option Body) Φ' W, (∀ j h, j < 4 → ρ j = some h → ρ' j = some h) → LogH n l H' → RelH w0 O ρ' H' W Φ' → K W) ∧ IterOk P gf lb evV l K := by
  obtain ⟨c, e1, e2⟩ := func_den t9
  simp only [DenT] at e2
  obtain ⟨v1, r1, q1, d1, v2, r2, rfl, d2, rfl⟩ := e2
  obtain ⟨h2, bR, oR, m1, m2, rfl⟩ := ptrD d1
  obtain ⟨h3, bN, oN, n1, n2, rfl⟩ := ptrD d2
  have hc : c = #[.pointer (some ⟨bR, oR + 0, none⟩), .pointer (some ⟨bN, oN + 0, none⟩)] := by cases c; simp at q1; subst q1; rfl
  subst hc
  refine ⟨_, e1, ?_⟩
  obtain ⟨h0, g1, g2⟩ := x.holds 0 _ hH.b0
  obtain ⟨h1, g3, g4⟩ := x.holds 1 _ hH.b1
  have box := hd_cells x (id := 2) (cs := [.ptr 0 0]) hH.b2 m1 m2 0 _ rfl
  obtain ⟨_, _, z2, _⟩ := box
  simp only [DenC] at z2
  obtain ⟨hh, b, base, z3, z4, _⟩ := z2
  rw [g1] at z3; cases z3
  have own := hd_cells x (id := 0) (cs := [.int .i64 n, .own 1]) hH.b0 g1 z4 1 _ rfl
  obtain ⟨_, _, y2, _⟩ := own
  simp only [DenC] at y2
  obtain ⟨loc, len, cap, y3, _⟩ := y2
  rw [g3] at y3; cases y3
  have low : ∀ {ρ' : Rho}, (∀ j h, j < 4 → ρ j = some h → ρ' j = some h) → ρ' 2 = some h2 ∧ ρ' 3 = some h3 ∧ ρ' 0 = some h0 ∧ ρ' 1 = some (.sl loc len cap) := fun h => ⟨h 2 _ (by omega) m1, h 3 _ (by omega) n1, h 0 _ (by omega) g1, h 1 _ (by omega) g3⟩
  cases loc with
  | some y =>
    obtain ⟨b1, o1⟩ := y
    refine ⟨LogK bR (oR + 0) bN (oN + 0) b base b1 o1 cap l, fun ρ' H' Φ' W hlow hH' x => ?_, hs.has _ _ _ _ _ _ _ _ _ _ (by have := (fits_int hfit).2; omega)⟩
    obtain ⟨a1, a2, a3, a4⟩ := low hlow
    exact logK_of x hH'.b0 hH'.b1 hH'.b2 hH'.b3 a1 m2 a2 n2 a3 z4 a4 hrow2
  | none =>
    obtain ⟨rfl, _⟩ := logN_of x hH.b0 hH.b1 hH.b2 hH.b3 m1 m2 n1 n2 g1 z4 g3
    refine ⟨LogN bR (oR + 0) bN (oN + 0) b base, fun ρ' H' Φ' W hlow hH' x => ?_, hs.non _ _ _ _ _ _⟩
    obtain ⟨a1, a2, a3, a4⟩ := low hlow
    exact (logN_of x hH'.b0 hH'.b1 hH'.b2 hH'.b3 a1 m2 a2 n2 a3 z4 a4).2

/-- all events, of the log as cells and rows -/
theorem events_ok {g : Ctx} (hU : CtxU g) {f gf : FuncId} {fn : Func} (hf : g.P.funcs[f]? = some fn) (hname : (fn.name == "runtime.NumGoroutine") = false) {r : RParts} (hb : fn.body = some r.code) (hn : fn.ntmps = 16) (hres : fn.results = #[.tmp 2])
    (hp : r.p = 10) (hg9 : r.g = .tmp 9) (eg : ∀ args w, (callFunc gf args).run g.P w = .ok (.enter gf args) w) (hs : SinceOk g.P gf) (hpl : plainC r.A = true ∧ plainC r.Bd = true) {m : Nat} {l : List (List Int)} (hl16 : l.length * 16 ≤ 2 ^ 47)
    (hpre : ∀ n : Int, runP g m fn.ntmps [] r.c0 r.c1 r.c2 [.ptr 0 0] [.cells [.int .i64 n, .own 1], .rows [.i64, .i64] l] [3, 9] [0, 1, 4, 5, 3, 2] = some ([.ptr 4 0, .func gf [] [.ptr 2 0, .ptr 3 0]], (evB n l []).map some, [0 ≤ n ∧ n.toNat * 16 ≤ 2 ^ 47]))
    (hround : ∀ n pre a b, runR g m fn.ntmps [] [] r.A r.Bd [(10, .agg [.int .i64 a, .int .i64 b]), (3, .ptr 4 0)] (evB n l pre) [0, 1, 2, 3, 4, 8] = some ((evB n l (pre ++ [[a, b]])).map some, [(pre ++ [[a, b]]).length * 16 ≤ 2 ^ 47]))
    (hpost : ∀ n pre, runE g m fn.ntmps r.i r.ops [(3, .ptr 4 0)] (evB n l pre) 2 [0, 1, 5] = some (.own 2, [.cells [.int .i64 n, .own 1], .rows [.i64, .i64] l, .rows [.i64, .i64] pre].map some, [])) :
    FnOk g f [.ptr 0 0] [.log l] { val := .own 1, new := [.rows [.i64, .i64] l], C := [l.length * 16 ≤ 2 ^ 47] } := by
  refine FnOk.logRows (FnOk.factsB fun hfc => ?_)
  have hrow := hfc (.rows [.i64, .i64] l) (by simp)
  have hrow2 : ∀ r ∈ l, r.length = 2 := fun r hr => (hrow r hr).1
  have hfit := hfc (.cells [.int .i64 l.length, .own 1]) (by simp)
  have hfitl : Fits .i64 (l.length : Int) := hfit.1
  obtain ⟨c0, c1, c2, k, gop, p, A, Bd, i, ops⟩ := r
  simp only at hp hg9 hpl hpre hround hpost
  subst hp; subst hg9
  refine rangeFn_ok (α := List Int) hU hf hname hb (by rw [hn]; decide) hres (by show 10 < fn.ntmps; rw [hn]; decide) (args := [.ptr 0 0]) (B := [.cells [.int .i64 l.length, .own 1], .rows [.i64, .i64] l]) (by rw [hn]; decide) (by simp) (hpre _) ?_ (by decide) (m := 5) ?_ (by simp) ?_ (gf := gf) (enc := evV) (encS := evS) (xs := l)
    (Bs := evB l.length l) (S := [(3, .ptr 4 0)]) (fun t => ?_) ?_ ?_ ?_ eg ?_ (by simp [evB]) (hpost _ _) (by simp [AllC]) (by decide) ?_ rfl ?_ (by simp)
  · intro q hq
    simp only [List.mem_singleton] at hq; subst hq
    exact ⟨by omega, by simpa using hl16⟩
  · intro j _ hj
    match j, hj with
    | 0, _ => rfl
    | 1, _ => rfl
    | j + 2, hj => exact absurd hj (by simp)
  · intro k hk; simp at hk; rcases hk with rfl | rfl <;> decide
  · by_cases h3 : t = 3
    · subst h3; left; rfl
    · right
      have e : tget (mkT [(3, SV.ptr 4 0)]) t = if t = 3 then .ptr 4 0 else tget (mkT []) t := Tr.get_set _ _ _ _ _ (by decide)
      rw [e, if_neg h3]; simp [tget, mkT, Tr.get_lf]
  · intro pre x rest hx
    obtain ⟨a, b, rfl⟩ : ∃ a b, x = [a, b] := by
      have := hrow2 x (by rw [hx]; simp)
      match x, this with
      | [a, b], _ => exact ⟨a, b, rfl⟩
    refine RoundOk.run hU hpl.1 hpl.2 (by rw [hn]; decide) (by simp [evB]) (hround l.length pre a b) ?_ (by decide) ?_
    · intro q hq
      simp only [List.mem_singleton] at hq; subst hq
      have : (pre ++ [[a, b]]).length ≤ l.length := by rw [hx]; simp
      omega
    · intro j hj
      match j, hj with
      | 0, _ => rfl
      | 1, _ => rfl
      | 2, _ => rfl
      | 3, _ => rfl
      | 4, _ => rfl
      | j + 5, hj => exact absurd hj (by omega)
  · intro x hx w0 O ρ
    obtain ⟨h2, hk⟩ := hrow x hx
    obtain ⟨a, b, rfl⟩ : ∃ a b, x = [a, b] := by
      match x, h2 with
      | [a, b], _ => exact ⟨a, b, rfl⟩
    have ha := hk 0 .i64 a rfl rfl
    have hb := hk 1 .i64 b rfl rfl
    refine .inr ⟨rfl, ?_⟩
    simp only [evS, evV, DenC, DenL]
    exact ⟨_, _, rfl, ⟨rfl, ha⟩, rfl, _, _, rfl, ⟨rfl, hb⟩, rfl, rfl⟩
  · intro y hy; simp at hy; subst hy; exact ⟨by decide, by simp [mapC, lowId]⟩
  · intro w0 O hG ρ Φ a w r
    have t9 := r.tmps 9
    rw [show tget (mkT (([3, 9] : List Nat).zip [SV.ptr 4 0, .func gf [] [.ptr 2 0, .ptr 3 0]])) 9 = .func gf [] [.ptr 2 0, .ptr 3 0] from rfl] at t9
    obtain ⟨lb, e1, K, hK, hit⟩ := since_K hs hrow2 hfitl (n := l.length) ⟨rfl, rfl, rfl, rfl⟩ r.heap t9
    exact ⟨lb, e1, K, fun pre ρ' Φ' W hlow x => hK ρ' _ Φ' W (fun j h hj => hlow j h (by omega)) ⟨rfl, rfl, rfl, rfl⟩ x, hit⟩
  · intro j hj
    match j, hj with
    | 0, _ => rfl
    | 1, _ => rfl
    | j + 2, hj => exact absurd hj (by simp)
  · intro j hj
    match j, hj with
    | 0, _ => rfl
    | 1, _ => rfl
    | 2, _ => rfl
    | j + 3, hj => exact absurd hj (by simp)

end
end Go.Vx

/- Arguments that are slices of structs. -/
namespace Go.Vx
open Go.ChangeShapes Go.WideShapes Go.RowKit

/-- kinds of cells: numbers and truth values -/
inductive CK where
  | i (k : IntKind)
  | b
def kindsX (P : Program) : Nat → TypeId → Option (List CK)
  | 0, _ => none
  | d + 1, t =>
    let r : Option (List CK) := match P.underlying t with
      | some (.int k) => some [.i k]
      | some .bool => some [.b]
      | some (.array n e) => match kindsX P d e with
        | some l => some (List.replicate n l).flatten
        | none => none
      | some (.struct fs) => match tightFields P fs.toList 0, fs.all (·.name != "_") with
        | some _, true => match fs.toList.mapM fun f => kindsX P d f.type with
          | some ls => some ls.flatten
          | none => none
        | _, _ => none
      | _ => none
    match r with
    | some l => match Nat.beq l.length (P.cellsOf t) with
      | true => some l
      | false => none
    | none => none
theorem kindsX_len {P : Program} {d : Nat} {t : TypeId} {ks : List CK} (h : kindsX P d t = some ks) : ks.length = P.cellsOf t := by
  cases d with
  | zero => simp [kindsX] at h
  | succ d =>
    simp only [kindsX] at h
    split at h
    · split at h
      · rename_i hb
        simp only [Option.some.injEq] at h; subst h
        exact Nat.eq_of_beq_eq_true hb
      · simp at h
    · simp at h

def OkX : CK → Option Value → Prop
  | .i k, v => ∃ n, v = some (.int k n) ∧ Fits k n
  | .b, v => ∃ b, v = some (.bool b)
def FlatX (ks : List CK) (cs : List Value) : Prop := cs.length = ks.length ∧ ∀ (i : Nat) (k : CK), ks[i]? = some k → OkX k cs[i]?
theorem FlatX.append {ks ks' : List CK} {cs cs' : List Value} (h : FlatX ks cs) (h' : FlatX ks' cs') : FlatX (ks ++ ks') (cs ++ cs') := by
  refine ⟨by simp [h.1, h'.1], fun i k hk => ?_⟩
  by_cases hi : i < ks.length
  · rw [List.getElem?_append_left hi] at hk
    have := h.2 i k hk
    rwa [List.getElem?_append_left (by rw [h.1]; exact hi)]
  · rw [List.getElem?_append_right (by omega)] at hk
    have := h'.2 _ k hk
    rwa [List.getElem?_append_right (by rw [h.1]; omega), h.1]

section
variable {H : Type} {enc : TypeId × Value → H} {P : Program} {w : World} {base : Nat} {spare : Nat → Bool} {held : Bool}
theorem flat_chunksX {ks : List CK} {cs : List Value} {sz : Nat} (hsz : ks.length = sz) : ∀ (n : Nat), (∀ i, i < n → FlatX ks ((cs.drop (i * sz)).take sz)) → FlatX (List.replicate n ks).flatten (cs.take (n * sz))
  | 0, _ => by simp [FlatX]
  | n + 1, h => by
    have h1 := flat_chunksX hsz n fun i hi => h i (by omega)
    have h2 := h n (by omega)
    have e1 : (List.replicate (n + 1) ks).flatten = (List.replicate n ks).flatten ++ ks := by
      rw [List.replicate_succ']; simp
    have e2 : cs.take ((n + 1) * sz) = cs.take (n * sz) ++ (cs.drop (n * sz)).take sz := by
      rw [Nat.succ_mul, List.take_add]
    rw [e1, e2]; exact h1.append h2

theorem trod_kindsX : ∀ (d : Nat) (t : TypeId) (ks : List CK), kindsX P d t = some ks → ∀ (fuel : Nat) (cs : List Value) (x : DataW H × List MemPlace), DataW.trod enc P w base spare held fuel t cs = some x → FlatX ks cs
  | 0, t, ks, h, _, _, _, _ => by simp [kindsX] at h
  | d + 1, t, ks, h, 0, _, _, hx => by simp [DataW.trod] at hx
  | d + 1, t, ks, h, fuel + 1, cs, x, hx => by
    simp only [kindsX] at h
    split at h
    · rename_i l hl
      split at h
      · rename_i hlen
        have hlen := Nat.eq_of_beq_eq_true hlen
        simp only [Option.some.injEq] at h; subst h
        split at hl
        · rename_i k hu
          simp only [Option.some.injEq] at hl; subst hl
          simp only [DataW.trod, hu] at hx
          split at hx <;> rename_i e <;> first | (simp at e; done) | skip
          all_goals first | (simp at hx; done) | skip
          simp only [Option.some.injEq, TypeDesc.int.injEq] at e
          subst e
          split at hx
          · rename_i hw
            refine ⟨rfl, fun i k' hk' => ?_⟩
            cases i with
            | zero => simp at hk'; subst hk'; exact ⟨_, by rw [hw.1]; rfl, fits_of_wf hw.2⟩
            | succ i => simp at hk'
          · simp at hx
        · rename_i hu
          simp only [Option.some.injEq] at hl; subst hl
          simp only [DataW.trod, hu] at hx
          split at hx <;> rename_i e <;> first | (simp at e; done) | skip
          all_goals first | (simp at hx; done) | skip
          refine ⟨rfl, fun i k' hk' => ?_⟩
          cases i with
          | zero => simp at hk'; subst hk'; exact ⟨_, rfl⟩
          | succ i => simp at hk'
        · rename_i n e hu
          split at hl
          · rename_i l0 hl0
            simp only [Option.some.injEq] at hl; subst hl
            simp only [DataW.trod, hu] at hx
            split at hx
            · rename_i hcs
              cases hm : (List.range n).mapM (fun i => DataW.trod enc P w base spare held fuel e ((cs.drop (i * P.cellsOf e)).take (P.cellsOf e))) with
              | none => simp [hm] at hx
              | some ys =>
                obtain ⟨_, g2⟩ := mapM_got hm
                have each : ∀ i, i < n → FlatX l0 ((cs.drop (i * P.cellsOf e)).take (P.cellsOf e)) := fun i hi => by
                  obtain ⟨y, _, q⟩ := g2 i i (by simp [hi])
                  exact trod_kindsX d e l0 hl0 fuel _ y q
                by_cases hn : n = 0
                · subst hn
                  simp only [List.replicate_zero, List.flatten_nil, List.length_nil] at hlen ⊢
                  exact ⟨by rw [hcs, ← hlen]; rfl, by simp⟩
                · have hsz := kindsX_len hl0
                  have := flat_chunksX hsz n each
                  have e3 : cs.take (n * P.cellsOf e) = cs := List.take_of_length_le (by rw [hcs, ← hlen, ← hsz]; simp)
                  rwa [e3] at this
            · simp at hx
          · simp at hl
        · rename_i fs hu
          split at hl
          · rename_i n0 hnf ht
            split at hl
            · rename_i ls hls
              simp only [Option.some.injEq] at hl; subst hl
              simp only [DataW.trod, hu] at hx
              split at hx
              · rename_i hcs
                cases hm : fs.toList.mapM (fun f => DataW.trod enc P w base spare held fuel f.type ((cs.drop f.offset).take (P.cellsOf f.type))) with
                | none => simp [hm] at hx
                | some ys =>
                  obtain ⟨_, g2⟩ := mapM_got hm
                  obtain ⟨k1, k2⟩ := mapM_got hls
                  -- field by field
                  have key : ∀ (fl : List Field) (ll : List (List CK)) (n : Nat), tightFields P fl n = some n0 → ll.length = fl.length →
                      (∀ (i : Nat) (f : Field), fl[i]? = some f → ∃ l, ll[i]? = some l ∧ kindsX P d f.type = some l ∧ FlatX l ((cs.drop f.offset).take (P.cellsOf f.type))) →
                      FlatX ll.flatten ((cs.drop n).take ll.flatten.length) := by
                    intro fl
                    induction fl with
                    | nil =>
                      intro ll n _ hl _
                      have : ll = [] := by simpa using hl
                      subst this; simp [FlatX]
                    | cons f fl ih =>
                      intro ll n htf hl hf
                      cases ll with
                      | nil => simp at hl
                      | cons l ll =>
                        simp only [tightFields] at htf
                        split at htf
                        · rename_i hoff
                          obtain ⟨l', h1, h2, h3⟩ := hf 0 f (by simp)
                          simp at h1; subst h1
                          rw [hoff] at h3
                          have hlen2 := kindsX_len h2
                          have hr := ih ll (n + P.cellsOf f.type) htf (by simpa using hl) fun i f' hf' => by
                            obtain ⟨l'', q1, q2⟩ := hf (i + 1) f' (by simpa using hf')
                            exact ⟨l'', by simpa using q1, q2⟩
                          have e : (cs.drop n).take (l :: ll).flatten.length = (cs.drop n).take (P.cellsOf f.type) ++ (cs.drop (n + P.cellsOf f.type)).take ll.flatten.length := by
                            rw [List.flatten_cons, List.length_append, hlen2, List.take_add, List.drop_drop]
                          rw [e, List.flatten_cons]
                          exact h3.append hr
                        · simp at htf
                  have := key fs.toList ls 0 hnf k1 fun i f hf => by
                    obtain ⟨y, _, q⟩ := g2 i f hf
                    obtain ⟨l, q1, q2⟩ := k2 i f hf
                    exact ⟨l, q1, q2, trod_kindsX d f.type l q2 fuel _ y q⟩
                  rw [List.drop_zero, List.take_of_length_le (by rw [hcs, hlen]; exact Nat.le_refl _)] at this
                  exact this
              · simp at hx
            · simp at hl
          · simp at hl
        · simp at hl
      · simp at h
    · simp at h


/-- cells of these kinds -/
def svX : List CK → (Nat → Int) → Nat → List SV
  | [], _, _ => []
  | .i k :: ks, a, i => .int k (a i) :: svX ks a (i + 1)
  | .b :: ks, a, i => .sbool (decide (a i = 1)) :: svX ks a (i + 1)
def numX (cs : List Value) (i : Nat) : Int := match cs[i]? with | some (.int _ n) => n | some (.bool true) => 1 | _ => 0
theorem denX {w0 : World} {O : Own} {ρ : Rho} {a : Nat → Int} : ∀ {ks : List CK} {cs : List Value} {i : Nat}, cs.length = ks.length → (∀ (j : Nat) (k : CK), ks[j]? = some k → OkX k cs[j]?) → (∀ j, a (i + j) = numX cs j) → DenL w0 O ρ (svX ks a i) cs
  | [], cs, i, hl, _, _ => by simp [svX, DenL]; simpa using hl
  | k :: ks, [], i, hl, _, _ => by simp at hl
  | k :: ks, c :: cs, i, hl, h, ha => by
    have h0 := h 0 k (by simp)
    have a0 : a i = numX (c :: cs) 0 := ha 0
    have hr := denX (w0 := w0) (O := O) (ρ := ρ) (a := a) (ks := ks) (cs := cs) (i := i + 1) (by simpa using hl) (fun j k' hj => by simpa using h (j + 1) k' (by simpa using hj)) (fun j => by
      rw [show i + 1 + j = i + (j + 1) by omega, ha (j + 1)]; simp [numX])
    cases k with
    | i k =>
      obtain ⟨n, h1, h2⟩ := h0
      simp at h1; subst h1
      have e : a i = n := by rw [a0]; rfl
      simp only [svX, DenL]
      exact ⟨_, cs, rfl, by simp only [DenC]; rw [e]; exact ⟨rfl, h2⟩, rfl, hr⟩
    | b =>
      obtain ⟨b, h1⟩ := h0
      simp at h1; subst h1
      have e : decide (a i = 1) = b := by rw [a0]; cases b <;> rfl
      simp only [svX, DenL]
      exact ⟨_, cs, rfl, by simp only [DenC]; rw [e], rfl, hr⟩

theorem cells_mem {W : World} {a : Addr} {n : Nat} {cs : List Value} {base : Nat} (h : W.cells? base a n = some cs) : cs.length = n ∧ ∀ j v, cs[j]? = some v → W.cell? (a.add j) = some v := by
  unfold World.cells? at h
  split at h
  · obtain ⟨g1, g2⟩ := mapM_got h
    refine ⟨by simpa using g1, fun j v hj => ?_⟩
    have hjn : j < n := by have := (List.getElem?_eq_some_iff.1 hj).1; simp at g1; omega
    obtain ⟨y, q1, q2⟩ := g2 j j (by simp [hjn])
    rw [hj] at q1; simp at q1; subst q1; exact q2
  · simp at h

theorem spot_none {W : World} {a : Addr} {v : Value} (h : W.cell? (a.add 0) = some v) : a.spot = none := by
  unfold World.cell? at h
  cases hs : a.spot with
  | none => rfl
  | some s =>
    have hsa : (a.add 0).spot.isSome = true := by unfold Addr.add; simp [hs]
    split at h
    · rw [if_pos hsa] at h; simp at h
    · simp at h

/-- a slice of structs -/
theorem open_rows {W : World} {t e : TypeId} {ks : List CK} {v : Value} {d : DataW H} {ps : List MemPlace} {r : Reach} {b0 : Nat} (ht : P.underlying t = some (.slice e)) (hk : kindsX P 8 e = some ks) (hpos : 0 < ks.length)
    (hval : Value.okWide P W r b0 t v) (hd : DataW.Trod enc P W base spare held t v d ps) (ρ : Rho) :
    ∃ (n : Nat) (a : Nat → Nat → Int), n ≤ maxLen ∧ DenV W (O0 W) ρ (.ro ks.length n fun i => .agg (svX ks (a i) 0)) v := by
  obtain ⟨fuel, hf⟩ := hd
  have hv : isAggV v = false := by
    unfold Value.okWide at hval
    rw [ht] at hval
    simp only at hval
    unfold Cell.okWide at hval
    rw [ht] at hval
    simp only at hval
    cases v <;> simp [isAggV]
    all_goals (simp [Cell.ok, ht] at hval)
  rw [not_agg_cells hv] at hf
  rcases DataW.trod_slice ht hf with h0 | ⟨a, len, cap, elems, rest, n, _, h1, _, hb, hl, hm, hlen, hel, hsp, hns⟩
  · have h1 := h0.1
    simp at h1; subst h1
    refine ⟨0, fun _ _ => 0, Nat.zero_le _, den_cell rfl rfl ?_⟩
    simp only [DenC]
    exact ⟨none, 0, rfl, Nat.le_refl _, by simp⟩
  · simp at h1; subst h1
    have hsz := kindsX_len hk
    have each : ∀ i, i < len → ∃ cs, W.cells? base (a.add (i * P.cellsOf e)) (P.cellsOf e) = some cs ∧ FlatX ks cs := fun i hi => by
      have h2 := hel i hi
      rw [List.getElem?_eq_getElem (by omega)] at h2
      obtain ⟨cs, q1, q2⟩ := Option.bind_eq_some_iff.1 h2
      exact ⟨cs, q1, trod_kindsX 8 e ks hk n cs _ q2⟩
    refine ⟨len, fun i => numX ((W.cells? base (a.add (i * P.cellsOf e)) (P.cellsOf e)).getD []), by omega, den_cell rfl rfl ?_⟩
    simp only [DenC]
    refine ⟨some a, cap, rfl, hl, fun hpos2 => ?_⟩
    have hspot : a.spot = none := by
      obtain ⟨cs, q1, q2⟩ := each 0 hpos2
      obtain ⟨g1, g2⟩ := cells_mem q1
      have hc0 : 0 < cs.length := by rw [g1, ← hsz]; exact hpos
      have := g2 0 _ (List.getElem?_eq_getElem hc0)
      rw [Nat.zero_mul] at this
      have e0 : a.add 0 = a := by simp [Addr.add]
      rw [e0] at this
      exact spot_none this
    obtain ⟨b, o, sp⟩ := a
    simp only at hspot; subst hspot
    refine ⟨b, o, rfl, fun i hi => ?_⟩
    obtain ⟨cs, q1, q2⟩ := each i hi
    obtain ⟨g1, g2⟩ := cells_mem q1
    refine ⟨cs, by rw [g1, hsz], fun j u hj => ?_, ?_⟩
    · have := g2 j u hj
      have e1 : (Addr.add ⟨b, o, none⟩ (i * P.cellsOf e)) = adr b (o + i * P.cellsOf e) := adr_add b o _
      rw [e1, adr_add] at this
      show W.cell? (adr b (o + i * ks.length + j)) = some u
      rw [hsz]; exact this
    · refine denX q2.1 q2.2 fun j => ?_
      rw [Nat.zero_add]
      have : (W.cells? base (Addr.add ⟨b, o, none⟩ (i * P.cellsOf e)) (P.cellsOf e)).getD [] = cs := by rw [q1]; rfl
      show numX ((W.cells? base (Addr.add ⟨b, o, none⟩ (i * P.cellsOf e)) (P.cellsOf e)).getD []) j = numX cs j
      rw [this]
end
end Go.Vx

/- A nil slice as a slice of its own; logs of no events yet. -/
namespace Go.Vx
open Go

def emptyB : Body → Prop
  | .ints _ l => l = []
  | .rows _ l => l = []
  | .lists _ _ l => l = []
  | _ => False

section
variable {w0 : World} {O : Own} {ρ : Rho} {w : World} {H : Nat → Option Body} {Φ : Nat → Foot}

theorem RelH.adopt (x : RelH w0 O ρ H w Φ) {j : Nat} (hj : ρ j = none) {bd : Body} (hb : emptyB bd) : RelH w0 O (upR ρ j (.sl none 0 0)) (upH H j (some bd)) w (upF Φ j fun _ _ => False) := by
  refine (x.mono (Ext.up hj (.sl none 0 0))).put (hd := .sl none 0 0) (by simp [upR]) ?_ (fun i b o _ _ _ h => h.elim) (fun b o h => h.elim)
  cases bd with
  | cells cs => exact hb.elim
  | log l => exact hb.elim
  | ints k l => obtain rfl : l = [] := hb; exact ⟨rfl, Nat.le_refl _, trivial, rfl, fun _ _ h => h⟩
  | lists q k l => obtain rfl : l = [] := hb; exact ⟨rfl, Nat.le_refl _, trivial, rfl, fun _ _ h => h⟩
  | rows ks l => obtain rfl : l = [] := hb; exact ⟨rfl, Nat.le_refl _, by simp [bodyOk], rfl, fun _ _ h => h⟩

theorem den_nil {j : Nat} {v : Value} (h : DenV w0 O ρ (.raw (.slice none 0 0)) v) : DenV w0 O (upR ρ j (.sl none 0 0)) (.own j) v := by
  have h := (denV_cell h (by simp) rfl).1
  simp only [DenC] at h
  obtain ⟨h, _⟩ := h
  simp at h; subst h
  refine den_cell rfl rfl ?_
  simp only [DenC]
  exact ⟨none, 0, 0, by simp [upR], rfl⟩

theorem BH_append (B : List Body) (b : Body) (j : Nat) : BH (B ++ [b]) j = upH (BH B) B.length (some b) j := by
  unfold BH upH
  by_cases h : j = B.length
  · subst h; simp
  · rw [if_neg h]
    rcases Nat.lt_or_ge j B.length with h1 | h1
    · rw [List.getElem?_append_left h1]
    · show (B ++ [b])[j]? = B[j]?
      rw [List.getElem?_eq_none (by simp; omega), List.getElem?_eq_none h1]

theorem SimC.adopt {P : Program} {nT m : Nat} {c : Code} {S S' S1 : List (Nat × SV)} {B B1 : List Body} {e : Ex} {bd : Body} (t : Nat) (hb : emptyB bd) (ht : tget (mkT S) t = .raw (.slice none 0 0)) (hS : ∀ t', tget (mkT S') t' = if t' = t then .own B.length else tget (mkT S) t')
    (h : SimC P w0 O nT c S' (B ++ [bd]) e S1 B1 m) : SimC P w0 O nT c S B e S1 B1 m := by
  intro ρ Φ a w r hr
  have hn := hr B.length (Nat.le_refl _)
  have x := relH_funext (fun j => (BH_append B bd j).symm) (r.heap.adopt hn hb)
  have r2 : RelA nT w0 O (upR ρ B.length (.sl none 0 0)) (tget (mkT S')) (BH (B ++ [bd])) (upF Φ B.length fun _ _ => False) a w := by
    refine ⟨r.size, r.defers, fun t' => ?_, x⟩
    rw [hS]
    split
    · rename_i e; subst e
      have := r.tmps t'
      rw [ht] at this
      exact den_nil this
    · exact DenV.mono (Ext.up hn _) (r.tmps t')
  refine wpL_mono (h _ _ a w r2 fun j hj => by
    simp at hj
    simp [upR, show j ≠ B.length by omega]; exact hr j (by omega)) fun e' a' w' ⟨he, ρ', Φ', q1, q2, q3⟩ => ⟨he, ρ', Φ', fun j hd hj hh => q1 j hd hj (Ext.up hn _ j hd hh), q2, q3⟩

def setS (S : List (Nat × SV)) (t : Nat) (v : SV) : List (Nat × SV) := S.map fun y => if y.1 = t then (y.1, v) else y
theorem tget_setS {t : Nat} {v : SV} : ∀ {S : List (Nat × SV)}, (∀ y ∈ S, y.1 < 65535) → ∀ t', tget (mkT (setS S t v)) t' = if t' = t then (if t ∈ S.map (·.1) then v else .any) else tget (mkT S) t'
  | [], _, t' => by simp [setS, mkT, tget, Tr.get_lf]
  | y :: S, h, t' => by
    have ih := tget_setS (t := t) (v := v) (S := S) (fun z hz => h z (by simp [hz])) t'
    have e1 : tget (mkT (y :: S)) t' = if t' = y.1 then y.2 else tget (mkT S) t' := Tr.get_set _ _ _ _ _ (h y (by simp))
    have e2 : tget (mkT (setS (y :: S) t v)) t' = if t' = y.1 then (if y.1 = t then v else y.2) else tget (mkT (setS S t v)) t' := by
      have : setS (y :: S) t v = (if y.1 = t then (y.1, v) else y) :: setS S t v := rfl
      rw [this]
      by_cases hy : y.1 = t
      · rw [if_pos hy, if_pos hy]; exact Tr.get_set _ _ _ _ _ (h y (by simp))
      · rw [if_neg hy, if_neg hy]; exact Tr.get_set _ _ _ _ _ (h y (by simp))
    rw [e1, e2, ih]
    by_cases a : t' = y.1
    · subst a
      by_cases b : y.1 = t
      · subst b; simp
      · simp [b]
    · by_cases b : t' = t
      · subst b
        rw [if_neg a, if_pos rfl, if_pos rfl]
        have : t' ∈ List.map (fun x => x.fst) (y :: S) ↔ t' ∈ List.map (fun x => x.fst) S := by rw [List.map_cons, List.mem_cons]; exact ⟨fun h => h.resolve_left a, .inr⟩
        simp only [this]
      · simp [a, b]
theorem SimC.adoptS {P : Program} {nT m : Nat} {c : Code} {S S1 : List (Nat × SV)} {B B1 : List Body} {e : Ex} (bd : Body) (t : Nat) (hb : emptyB bd) (ht : tget (mkT S) t = .raw (.slice none 0 0)) (hk : ∀ y ∈ S, y.1 < 65535) (hm : t ∈ S.map (·.1))
    (h : SimC P w0 O nT c (setS S t (.own B.length)) (B ++ [bd]) e S1 B1 m) : SimC P w0 O nT c S B e S1 B1 m :=
  SimC.adopt t hb ht (fun t' => by rw [tget_setS hk, if_pos hm]) h

/-- nothing, as a slice of its own -/
theorem FnOk.adopt {g : Ctx} {f : FuncId} {args : List SV} {B : List Body} {upd : List (Nat × Option Body)} {C : List Prop} {bd : Body} (hb : emptyB bd) (hu : ∀ y ∈ upd, y.1 < B.length) (h : FnOk g f args B { val := .raw (.slice none 0 0), upd }) : FnOk g f args B { val := .own B.length, upd, new := [bd], C } := by
  intro w0 O hG ρ Φ vs w d x hr
  refine (h w0 O hG ρ Φ vs w d x hr).mono fun u w' ⟨ρ', Φ', q1, q2, q3, q4⟩ => ?_
  have hn := q3 B.length (by simp)
  refine ⟨upR ρ' B.length (.sl none 0 0), _, den_nil q1, fun j hd hh => Ext.up hn _ j hd (q2 j hd hh), fun j hj => ?_, relH_funext (fun j => ?_) (q4.adopt hn hb)⟩
  · simp at hj; simp [upR, show j ≠ B.length by omega]; exact q3 j (by simp; omega)
  · unfold afterH newH
    simp only [newAll]

/-- a log of cells that hold nothing yet -/
theorem relH_log0 {B : List Body} {k : Nat} {n : Int} {l : Bool} (x : RelH w0 O ρ (BH B) w Φ) (hk : B[k]? = some (.cells [bif l then .lit .i64 0 else .int .i64 0, .raw (.slice none 0 0)])) : RelH w0 O ρ (BH (B.set k (.log []))) w Φ := by
  obtain ⟨hd, h1, h2⟩ := x.holds k _ hk
  cases hd with
  | sl a b c => exact h2.elim
  | «at» b base =>
    obtain ⟨q1, q2, q3⟩ := h2
    obtain ⟨v0, a1, a2, _, a4⟩ := q3 0 (bif l then .lit .i64 0 else .int .i64 0) (by simp [cellsOf])
    obtain ⟨v1, b1, b2, _, b4⟩ := q3 1 (.raw (.slice none 0 0)) (by simp [cellsOf])
    have e0 : v0 = .int .i64 0 ∧ Fits .i64 0 := by
      cases l <;> (simp only [cond_true, cond_false, DenC] at a2; obtain ⟨e, f⟩ := a2; simp at e; exact ⟨e, f⟩)
    simp only [DenC] at b2
    obtain ⟨e1, _⟩ := b2
    simp at e1; subst e1
    obtain ⟨rfl, f0⟩ := e0
    have hl : (cellsOf (.cells [bif l then SV.lit .i64 0 else .int .i64 0, .raw (.slice none 0 0)])).length = 2 := rfl
    rw [hl] at q2
    have hin : BH B k ≠ none := by show B[k]? ≠ none; rw [hk]; simp
    have hF : ∀ j, j < 2 → Φ k b (base + j) := fun j hj => (q2 b (base + j)).2 ⟨rfl, by omega, by omega⟩
    have y := x.put (id := k) (bd := .log []) (hd := .at b base) (F := Φ k) h1 ⟨none, 0, 0, fun _ _ => False, a1, a4, b1, b4, f0, ⟨rfl, Nat.le_refl _, by simp [bodyOk], rfl, fun _ _ h => h⟩, fun o q => q.elim, fun b' o => by
      rw [q2 b' o]
      constructor
      · rintro ⟨rfl, h, h'⟩; left; exact ⟨rfl, by omega⟩
      · rintro (⟨rfl, h⟩ | h)
        · exact ⟨rfl, by omega, by omega⟩
        · exact h.elim⟩ (fun i b' o hi hn g1 g2 => x.disj i k b' o hi hn hin g1 g2) (fun b' o q => x.mine k b' o hin q)
    rw [upF_self] at y
    refine relH_funext (fun j => ?_) y
    unfold upH BH
    by_cases e : j = k
    · subst e
      have : j < B.length := (List.getElem?_eq_some_iff.1 hk).1
      simp [this]
    · rw [if_neg e, List.getElem?_set_ne (Ne.symm e)]

theorem SimC.log0 {P : Program} {nT m : Nat} {c : Code} {S S1 : List (Nat × SV)} {B B1 : List Body} {e : Ex} (k : Nat) {l : Bool} (hk : B[k]? = some (.cells [bif l then .lit .i64 0 else .int .i64 0, .raw (.slice none 0 0)]))
    (h : SimC P w0 O nT c S (B.set k (.log [])) e S1 B1 m) : SimC P w0 O nT c S B e S1 B1 m :=
  fun ρ Φ a w r hr => h ρ Φ a w ⟨r.size, r.defers, r.tmps, relH_log0 (n := 0) r.heap hk⟩ (by simpa using hr)
end

/-! ### more summaries -/
def lookS : List (Nat × SumF) → Nat → Option SumF
  | [], _ => none
  | x :: r, f => match Nat.beq x.1 f with
    | true => some x.2
    | false => lookS r f
noncomputable def Ctx.add (g : Ctx) (l : List (Nat × SumF)) : Ctx := { P := g.P, sum := fun f => match lookS l f with | some F => some (mkSumN F) | none => g.sum f, glob := g.glob }
theorem lookS_mem : ∀ {l : List (Nat × SumF)} {f : Nat} {F : SumF}, lookS l f = some F → (f, F) ∈ l
  | [], f, F, h => by simp [lookS] at h
  | x :: r, f, F, h => by
    simp only [lookS] at h
    split at h
    · rename_i hb
      have := Nat.eq_of_beq_eq_true hb
      simp only [Option.some.injEq] at h
      subst h; subst this; simp
    · exact .tail _ (lookS_mem h)
theorem CtxU.add {g : Ctx} {l : List (Nat × SumF)} (hU : CtxU g) (hm : g.P.follows .mixedOrders = true)
    (hn : ∀ (f : FuncId) (fn : Func) (c : Code), g.P.funcs[f]? = some fn → fn.body = some c → (fn.name == "runtime.NumGoroutine") = false)
    (h : ∀ x ∈ l, Acc g x.1 x.2) : CtxU (g.add l) := by
  refine CtxU.mk (fun f σ hs => ?_) hm hn
  simp only [Ctx.add] at hs
  split at hs
  · rename_i F hF
    simp only [Option.some.injEq] at hs; subst hs
    exact Acc.lift (g := g) rfl rfl (h _ (lookS_mem hF))
  · exact fun w0 O hG => (hU w0 O hG).sums f σ hs
/-- what a function of no summaries but these does -/
theorem Acc.of {g g' : Ctx} (hP : g.P = g'.P) (hg : g.glob = g'.glob) {f : FuncId} {F : SumF} (h : Acc g f F) : Acc g' f F := by
  obtain ⟨P, s, gl⟩ := g
  obtain ⟨P', s', gl'⟩ := g'
  simp only at hP hg; subst hP; subst hg
  exact h
theorem FnOk.of {g g' : Ctx} (hP : g.P = g'.P) (hg : g.glob = g'.glob) {f : FuncId} {args : List SV} {B : List Body} {out : OpOut} (h : FnOk g f args B out) : FnOk g' f args B out := by
  obtain ⟨P, s, gl⟩ := g
  obtain ⟨P', s', gl'⟩ := g'
  simp only at hP hg; subst hP; subst hg
  exact h
end Go.Vx

/- Rows of numbers, looked at through slices. -/
namespace Go.Vx
open Go

/-- a part of a list -/
def sub (l : List (List Int)) (o n : Nat) : List (List Int) := (l.drop o).take n
theorem sub_all (l : List (List Int)) : sub l 0 l.length = l := by simp [sub]
theorem sub_length {l : List (List Int)} {o n : Nat} (h : o + n ≤ l.length) : (sub l o n).length = n := by simp [sub]; omega
theorem sub_get {l : List (List Int)} {o n i : Nat} (hi : i < n) : (sub l o n)[i]? = l[o + i]? := by simp [sub, List.getElem?_take, hi, List.getElem?_drop]
theorem sub_eq {la lb : List (List Int)} {oa ob n : Nat} (ha : oa + n ≤ la.length) (hb : ob + n ≤ lb.length) : sub la oa n = sub lb ob n ↔ ∀ i, i < n → la.getD (oa + i) [] = lb.getD (ob + i) [] := by
  constructor
  · intro h i hi
    have h1 := congrArg (·[i]?) h
    simp only [sub_get hi] at h1
    rw [List.getD_eq_getElem?_getD, List.getD_eq_getElem?_getD, h1]
  · intro h
    apply List.ext_getElem?
    intro i
    by_cases hi : i < n
    · rw [sub_get hi, sub_get hi]
      have := h i hi
      rw [List.getD_eq_getElem?_getD, List.getD_eq_getElem?_getD, List.getElem?_eq_getElem (show oa + i < la.length by omega), List.getElem?_eq_getElem (show ob + i < lb.length by omega)] at this
      simp only [Option.getD_some] at this
      rw [List.getElem?_eq_getElem (show oa + i < la.length by omega), List.getElem?_eq_getElem (show ob + i < lb.length by omega), this]
    · rw [List.getElem?_eq_none (by rw [sub_length ha]; omega), List.getElem?_eq_none (by rw [sub_length hb]; omega)]
theorem row2 {l : List (List Int)} (h : ∀ r ∈ l, r.length = 2) {i : Nat} (hi : i < l.length) : [(l.getD i []).getD 0 0, (l.getD i []).getD 1 0] = l.getD i [] := by
  have := h l[i] (List.getElem_mem hi)
  have e : l.getD i [] = l[i] := by simp [hi]
  rw [e]
  match hl : l[i], this with
  | [a, b], _ => simp
theorem row3 {l : List (List Int)} (h : ∀ r ∈ l, r.length = 3) {i : Nat} (hi : i < l.length) : [(l.getD i []).getD 0 0, (l.getD i []).getD 1 0, (l.getD i []).getD 2 0] = l.getD i [] := by
  have := h l[i] (List.getElem_mem hi)
  have e : l.getD i [] = l[i] := by simp [hi]
  rw [e]
  match hl : l[i], this with
  | [a, b, c], _ => simp

/-- a slice of chunk id, as a part of its rows -/
def vw (id sz : Nat) (l : List (List Int)) : SV → Option (Nat × Nat)
  | .own j => match Nat.beq j id with
    | true => some (0, l.length)
    | false => none
  | .sl j _ off s 0 len _ => match (Nat.beq j id).and (Nat.beq s sz) with
    | true => some (off, len)
    | false => none
  | _ => none

section
variable {w0 : World} {O : Own} {ρ : Rho} {w : World} {H : Nat → Option Body} {Φ : Nat → Foot}
theorem vw_den {id sz : Nat} {ks : List IntKind} {l : List (List Int)} {x : SV} {o n : Nat} (h : vw id sz l x = some (o, n)) (hks : ks.length = sz) (r : RelH w0 O ρ H w Φ) (hb : H id = some (.rows ks l)) {v : Value} (d : DenV w0 O ρ x v) : DenV w0 O ρ (.sl id 0 o sz 0 n false) v := by
  unfold vw at h
  split at h
  · rename_i j
    split at h
    · rename_i hj
      have hj := Nat.eq_of_beq_eq_true hj
      subst hj
      simp only [Option.some.injEq, Prod.mk.injEq] at h
      obtain ⟨rfl, rfl⟩ := h
      obtain ⟨d, _⟩ := denV_cell (c := .own j) d (by simp) rfl
      simp only [DenC] at d
      obtain ⟨loc, len, cap, e1, e2⟩ := d
      simp at e2; subst e2
      obtain ⟨hd, f1, f2⟩ := r.holds j _ hb
      rw [e1] at f1; cases f1
      obtain ⟨g1, g2, g3, g4⟩ := f2
      have g1 : len = l.length := g1
      subst g1
      refine den_cell rfl rfl ?_
      simp only [DenC]
      refine ⟨_, cap, rfl, g2, ⟨by simp, ?_⟩, fun hpos => ?_⟩
      · cases loc with
        | none => exact .inl rfl
        | some y => exact .inr ⟨y.1, y.2, rfl⟩
      · cases loc with
        | none => have := g4.1; omega
        | some y => exact ⟨_, y.1, y.2, e1, rfl, by simp⟩
    · simp at h
  · rename_i j m off s len kn
    split at h
    · rename_i hj
      simp only [Bool.and_eq_true] at hj
      have hj1 := Nat.eq_of_beq_eq_true hj.1
      have hj2 := Nat.eq_of_beq_eq_true hj.2
      subst hj1; subst hj2
      simp only [Option.some.injEq, Prod.mk.injEq] at h
      obtain ⟨rfl, rfl⟩ := h
      obtain ⟨d, _⟩ := denV_cell (c := .sl j m off s 0 len kn) d (by simp) rfl
      simp only [DenC] at d
      obtain ⟨a, cap, e1, e2, ⟨_, e3⟩, e4⟩ := d
      simp at e1; subst e1
      refine den_cell rfl rfl ?_
      simp only [DenC]
      exact ⟨a, cap, rfl, e2, ⟨by simp, e3⟩, e4⟩
    · simp at h
  · simp at h
end

/-- arguments that say less, in that memory -/
theorem FnOk.argsH {g : Ctx} {f : FuncId} {args args' : List SV} {B : List Body} {out : OpOut} (h : FnOk g f args' B out) (hd : ∀ w0 O ρ Φ w vs, RelH w0 O ρ (BH B) w Φ → DenT w0 O ρ args vs → DenT w0 O ρ args' vs) : FnOk g f args B out :=
  fun w0 O hG ρ Φ vs w d x hr => h w0 O hG ρ Φ vs w (hd _ _ _ _ _ _ x d) x hr

theorem FnOk.toSb {g : Ctx} {f : FuncId} {args : List SV} {B : List Body} {upd : List (Nat × Option Body)} {new : List Body} {b b' : Bool} {C : List Prop} (h : FnOk g f args B { val := .bool b, upd, new }) (e : b = b') : FnOk g f args B { val := .sbool b', upd, new, C } := by
  refine FnOk.val h fun _ _ _ _ d => ?_
  subst e
  have := denV_bool (l := true) (b := b) d (by cases b <;> rfl)
  exact den_cell rfl (by rw [this]; rfl) (by rw [this]; simp [DenC])
theorem FnOk.ofSb {g : Ctx} {f : FuncId} {args : List SV} {B : List Body} {upd : List (Nat × Option Body)} {new : List Body} {b b' : Bool} {C : List Prop} (h : FnOk g f args B { val := .sbool b, upd, new }) (e : b = b') : FnOk g f args B { val := .bool b', upd, new, C } := by
  refine FnOk.val h fun _ _ _ _ d => ?_
  subst e
  have := denV_bool (l := false) (b := b) d rfl
  exact den_cell rfl (by rw [this]; rfl) (by rw [this]; simp [DenC])
/-- the first i below n that isn't so -/
theorem first_not {p : Nat → Prop} [DecidablePred p] : ∀ n, (∀ i, i < n → p i) ∨ ∃ k, k < n ∧ (∀ i, i < k → p i) ∧ ¬ p k
  | 0 => .inl fun i h => absurd h (by omega)
  | n + 1 => by
    rcases first_not (p := p) n with h | ⟨k, hk, h1, h2⟩
    · by_cases hp : p n
      · left; intro i hi
        rcases Nat.lt_succ_iff_lt_or_eq.1 hi with e | e
        · exact h i e
        · subst e; exact hp
      · exact .inr ⟨n, by omega, h, hp⟩
    · exact .inr ⟨k, by omega, h1, h2⟩
theorem fits_of {n : Int} (h1 : -9223372036854775808 ≤ n) (h2 : n ≤ 9223372036854775807) : Fits .i64 n := ⟨h1, h2⟩
theorem fits_small {n : Nat} (h : n ≤ 140737488355328) : Fits .i64 (n : Int) := by
  simp [Fits, IntKind.min, IntKind.max, IntKind.signed, IntKind.bits]; omega

/-- are two parts of rows one? -/
def scanF (K : List IntKind) : SumF := fun args B => match args, B with
  | [x, y], [.rows K1 la, .rows K2 lb] => match sameKs K1 K, sameKs K2 K, vw 0 K.length la x, vw 1 K.length lb y with
    | true, true, some (oa, na), some (ob, nb) => some { val := .sbool (decide (sub la oa na = sub lb ob nb)), C := [oa + na ≤ la.length, ob + nb ≤ lb.length, la.length ≤ 140737488355328, lb.length ≤ 140737488355328] }
    | _, _, _, _ => none
  | _, _ => none
theorem scan_acc {g : Ctx} {f : FuncId} {K : List IntKind} (h : ∀ la lb oa ob na nb, oa + na ≤ la.length → ob + nb ≤ lb.length → la.length ≤ 140737488355328 → lb.length ≤ 140737488355328 → (∀ r ∈ la, r.length = K.length) → (∀ r ∈ lb, r.length = K.length) →
    FnOk g f [.sl 0 0 oa K.length 0 na false, .sl 1 0 ob K.length 0 nb false] [.rows K la, .rows K lb] { val := .sbool (decide (sub la oa na = sub lb ob nb)) }) : Acc g f (scanF K) := by
  intro args B out ho hC
  unfold scanF at ho
  split at ho
  · rename_i x y K1 la K2 lb
    split at ho
    · rename_i oa na ob nb h1 h2 h3 h4
      simp only [Option.some.injEq] at ho; subst ho
      obtain rfl := sameKs_eq h1
      obtain rfl := sameKs_eq h2
      simp only [allC_cons, allC_nil, and_true] at hC
      refine FnOk.factsB fun hb => ?_
      have ha := hb (.rows _ la) (.head _)
      have hb := hb (.rows _ lb) (.tail _ (.head _))
      refine FnOk.argsH (h la lb oa ob na nb hC.1 hC.2.1 hC.2.2.1 hC.2.2.2 (fun r hr => (ha r hr).1) (fun r hr => (hb r hr).1)) fun w0 O ρ Φ w vs x d => ?_
      simp only [DenT] at d ⊢
      obtain ⟨v1, r1, rfl, d1, v2, r2, rfl, d2, rfl⟩ := d
      exact ⟨_, _, rfl, vw_den h3 rfl x rfl d1, _, _, rfl, vw_den h4 rfl x rfl d2, rfl⟩
    · simp at ho
  · simp at ho
end Go.Vx

/- Logs as cells and rows, among other chunks. -/
namespace Go.Vx
open Go

theorem upto_len (n : Nat) : (upto n).length = n := upto_length n
theorem fits_max {n : Nat} (h : n ≤ maxLen) : Fits .i64 (n : Int) := by
  have : maxLen = 9223372036854775807 := rfl
  exact fits_of (by omega) (by omega)
theorem DenImp.lit {k : IntKind} {n : Int} : DenImp (.int k n) (.lit k n) := fun w0 O ρ v d => by
  obtain ⟨d, h⟩ := denV_cell d (by simp) rfl
  exact den_cell rfl h (by simpa [DenC] using d)
theorem SimC.weakenI {P : Program} {w0 : World} {O : Own} {nT m : Nat} {c : Code} {S S1 S1' : List (Nat × SV)} {B B1 : List Body} {e : Ex} (h1 : SimC P w0 O nT c S B e S1 B1 m) (h : ∀ y ∈ S1', y.1 < 65535 ∧ DenImp (tget (mkT S1) y.1) y.2) : SimC P w0 O nT c S B e S1' B1 m :=
  fun ρ Φ a w r hr => wpL_mono (h1 ρ Φ a w r hr) fun _ _ _ ⟨he, ρ', Φ', q1, q2, q3⟩ => ⟨he, ρ', Φ', q1, q2, q3.size, q3.defers, fun t => by
    rcases tget_mkT S1' t fun y hy => (h y hy).1 with e | ⟨y, g1, g2, g3⟩
    · rw [e]; exact .inl rfl
    · rw [g3]
      have := q3.tmps t
      rw [← g2] at this ⊢
      exact (h y g1).2 _ _ _ _ this, q3.heap⟩
def skipIds (n m : Nat) : List Nat := upto n ++ (upto m).map (· + (n + 1))
theorem skipIds_lo {n m j : Nat} (h : j < n) : (skipIds n m)[j]? = some j := by
  unfold skipIds
  rw [List.getElem?_append_left (by rw [upto_len]; exact h), upto_get, if_pos h]
theorem skipIds_hi {n m j : Nat} (h : n ≤ j) (h2 : j < n + m) : (skipIds n m)[j]? = some (j + 1) := by
  unfold skipIds
  rw [List.getElem?_append_right (by rw [upto_len]; exact h), upto_len, List.getElem?_map, upto_get, if_pos (by omega)]
  simp; omega
theorem skipIds_out {n m j : Nat} (h2 : n + m ≤ j) : (skipIds n m)[j]? = none := by
  unfold skipIds
  rw [List.getElem?_append_right (by rw [upto_len]; omega), upto_len, List.getElem?_map, upto_get, if_neg (by omega)]
  rfl
theorem skipIds_nd {n m : Nat} : (skipIds n m).Nodup := by
  have hl : (skipIds n m).length = n + m := by simp [skipIds, upto_len]
  refine List.pairwise_iff_getElem.2 fun i j hi hj hij e => ?_
  have e : (skipIds n m)[i]? = (skipIds n m)[j]? := by rw [List.getElem?_eq_getElem hi, List.getElem?_eq_getElem hj, e]
  rw [hl] at hj
  rcases Nat.lt_or_ge i n with h1 | h1
  · rcases Nat.lt_or_ge j n with h2 | h2
    · rw [skipIds_lo h1, skipIds_lo h2] at e; simp at e; omega
    · rw [skipIds_lo h1, skipIds_hi h2 hj] at e; simp at e; omega
  · rw [skipIds_hi h1 (by omega), skipIds_hi (by omega) hj] at e; simp at e; omega

section
variable {w0 : World} {O : Own} {ρ : Rho} {w : World} {H : Nat → Option Body} {Φ : Nat → Foot}
/-- a function that reads a log, told of with the log as cells and rows -/
theorem FnOk.unlogAt {g : Ctx} {f : FuncId} {args : List SV} {B : List Body} {k : Nat} {l : List (List Int)} (hk : B[k]? = some (.log l)) {v v' : SV} {new : List Body} {C : List Prop}
    (h : FnOk g f args (B.set k (.cells [.int .i64 l.length, .own B.length]) ++ [Body.rows [.i64, .i64] l]) { val := v, new })
    (hv : mapC (idx (skipIds B.length new.length)) v = v') (hB : ∀ b ∈ B, mapB (idx (skipIds B.length new.length)) b = b) (hn : ∀ b ∈ new, mapB (idx (skipIds B.length new.length)) b = b) :
    FnOk g f args B { val := v', new, C } := by
  have hkl : k < B.length := (List.getElem?_eq_some_iff.1 hk).1
  intro w0 O hG ρ Φ vs w d x hr
  have h1 : ρ B.length = none := hr _ (Nat.le_refl _)
  obtain ⟨loc, len, cap, Φ1, x1⟩ := x.unlog (id := k) (k := B.length) (l := l) hk h1
  obtain ⟨hd, hr0, hh⟩ := x.holds k (.log l) hk
  obtain ⟨b, base, rfl, _⟩ := holds_log hh
  have x1 := relH_funext (H' := BH (B.set k (.cells [.int .i64 l.length, .own B.length]) ++ [Body.rows [.i64, .i64] l])) (fun j => by
    rw [BH_append, List.length_set]
    unfold upH
    split
    · rfl
    · split
      · rename_i e; subst e; simp [BH, hkl]
      · rename_i e; simp [BH, List.getElem?_set_ne (Ne.symm e)]) x1
  have hext : Ext ρ (upR ρ B.length (.sl loc len cap)) := Ext.up h1 _
  have hlen : (B.set k (.cells [.int .i64 l.length, .own B.length]) ++ [Body.rows [.i64, .i64] l]).length = B.length + 1 := by simp
  refine (h w0 O hG _ Φ1 vs w (DenT.mono hext _ _ d) x1 (fun j hj => by
    rw [hlen] at hj; simp [upR, show j ≠ B.length by omega]; exact hr j (by omega))).mono fun u w' ⟨ρ2, Φ2, q1, q2, q3, q4⟩ => ?_
  rw [hlen] at q3
  have hr2 : ρ2 k = some (.at b base) := q2 k _ (hext k _ hr0)
  have hA : ∀ j, afterH (B.set k (.cells [.int .i64 l.length, .own B.length]) ++ [Body.rows [.i64, .i64] l]) { val := v, new } j = if B.length + 1 ≤ j ∧ j < B.length + 1 + new.length then new[j - (B.length + 1)]? else BH (B.set k (.cells [.int .i64 l.length, .own B.length]) ++ [Body.rows [.i64, .i64] l]) j := fun j => by
    unfold afterH newH; rw [hlen]; simp only [updAll]; rw [newAll_get]
  have x2 := q4.tolog (id := k) (k := B.length) (l := l) (by rw [hA, if_neg (by omega)]; simp [BH, List.getElem?_append, hkl]) (by rw [hA, if_neg (by omega)]; simp [BH]) hr2
  refine ⟨inR ρ2 (skipIds B.length new.length), _, ?_, fun j hd hj => ?_, fun j hj => ?_, relH_funext (fun j => ?_) (relH_ren x2 (ids := skipIds B.length new.length) skipIds_nd)⟩
  · subst hv; exact denV_map (w0 := w0) (O := O) (inR_idx ρ2 _) q1
  · by_cases e : j < B.length
    · simp [inR, skipIds_lo e, q2 j _ (hext j _ hj)]
    · rw [hr j (by omega)] at hj; simp at hj
  · simp [inR, skipIds_out hj]
  · have hA' : afterH B { val := v', new, C } j = if B.length ≤ j ∧ j < B.length + new.length then new[j - B.length]? else BH B j := by
      unfold afterH newH; simp only [updAll]; rw [newAll_get]
    rw [hA']
    unfold renH
    by_cases e1 : j < B.length
    · rw [skipIds_lo e1, if_neg (by omega)]
      have hb := hB B[j] (List.getElem_mem e1)
      simp only [Option.bind_some]
      unfold upH
      by_cases e2 : j = k
      · subst e2
        have : B[j] = .log l := by have := List.getElem?_eq_getElem e1; rw [hk] at this; exact (Option.some.inj this).symm
        simp [BH, hk, mapB]
      · rw [if_neg e2, if_neg (by omega), hA, if_neg (by omega)]
        simp only [BH]
        rw [List.getElem?_append_left (by simp; omega), List.getElem?_set_ne (Ne.symm e2), List.getElem?_eq_getElem e1, Option.map_some, hb]
    · by_cases e2 : j < B.length + new.length
      · rw [skipIds_hi (by omega) e2, if_pos (by omega)]
        simp only [Option.bind_some]
        unfold upH
        rw [if_neg (by omega), if_neg (by omega), hA, if_pos (by omega), show j + 1 - (B.length + 1) = j - B.length by omega]
        rw [List.getElem?_eq_getElem (by omega), Option.map_some, hn _ (List.getElem_mem _)]
      · rw [skipIds_out (by omega), if_neg (by omega)]
        simp [BH, List.getElem?_eq_none (show B.length ≤ j by omega)]
/-- nothing, as a slice of its own, within what is handed back -/
theorem FnOk.adoptV {g : Ctx} {f : FuncId} {args : List SV} {B : List Body} {upd : List (Nat × Option Body)} {C : List Prop} {bd : Body} {v v' : SV} (hb : emptyB bd) (h : FnOk g f args B { val := v, upd })
    (hv : ∀ (w0 : World) (O : Own) (ρ : Rho) (u : Value), ρ B.length = none → DenV w0 O ρ v u → DenV w0 O (upR ρ B.length (.sl none 0 0)) v' u) : FnOk g f args B { val := v', upd, new := [bd], C } := by
  intro w0 O hG ρ Φ vs w d x hr
  refine (h w0 O hG ρ Φ vs w d x hr).mono fun u w' ⟨ρ', Φ', q1, q2, q3, q4⟩ => ?_
  have hn := q3 B.length (by simp)
  refine ⟨upR ρ' B.length (.sl none 0 0), _, hv _ _ _ _ hn q1, fun j hd hh => Ext.up hn _ j hd (q2 j hd hh), fun j hj => ?_, relH_funext (fun j => ?_) (q4.adopt hn hb)⟩
  · simp at hj; simp [upR, show j ≠ B.length by omega]; exact q3 j (by simp; omega)
  · unfold afterH newH
    simp only [newAll]
theorem den_nil_bool {ρ : Rho} {j : Nat} {b : Bool} {u : Value} (hn : ρ j = none) (h : DenV w0 O ρ (.tuple [.raw (.slice none 0 0), .bool b]) u) : DenV w0 O (upR ρ j (.sl none 0 0)) (.tuple [.own j, .sbool b]) u := by
  obtain ⟨h, hu⟩ := denV_cell h (by simp) rfl
  simp only [DenC] at h
  obtain ⟨arr, h1, h2⟩ := h
  simp only [DenT] at h2
  obtain ⟨v1, r1, e1, d1, v2, r2, rfl, d2, rfl⟩ := h2
  have d1' := den_nil (j := j) d1
  have d2' := DenV.mono (Ext.up hn (.sl none 0 0)) d2
  refine den_cell rfl hu ?_
  simp only [DenC, DenT]
  refine ⟨arr, h1, v1, _, e1, d1', v2, [], rfl, ?_, rfl⟩
  have := denV_bool (l := true) (b := b) d2' (by cases b <;> rfl)
  have : DenV w0 O (upR ρ j (.sl none 0 0)) (.sbool b) v2 := den_cell rfl (by rw [this]; rfl) (by rw [this]; simp [DenC])
  exact this
end
end Go.Vx

/- Numbers, looked at through slices. -/
namespace Go.Vx
open Go

/-- a part of a list of numbers -/
def subI (l : List Int) (o n : Nat) : List Int := (l.drop o).take n
theorem subI_all (l : List Int) : subI l 0 l.length = l := by simp [subI]
theorem subI_length {l : List Int} {o n : Nat} (h : o + n ≤ l.length) : (subI l o n).length = n := by simp [subI]; omega
theorem subI_get {l : List Int} {o n i : Nat} (hi : i < n) : (subI l o n).getD i 0 = l.getD (o + i) 0 := by
  unfold subI
  rw [List.getD_eq_getElem?_getD, List.getElem?_take, if_pos hi, List.getElem?_drop, ← List.getD_eq_getElem?_getD]
/-- a slice of chunk id, as a part of its numbers -/
def vwI (id : Nat) (l : List Int) : SV → Option (Nat × Nat)
  | .own j => match Nat.beq j id with
    | true => some (0, l.length)
    | false => none
  | .sl j _ off s 0 len _ => match (Nat.beq j id).and (Nat.beq s 1) with
    | true => some (off, len)
    | false => none
  | _ => none

section
variable {w0 : World} {O : Own} {ρ : Rho} {w : World} {H : Nat → Option Body} {Φ : Nat → Foot}
theorem vwI_den {id : Nat} {k : IntKind} {l : List Int} {x : SV} {o n : Nat} (h : vwI id l x = some (o, n)) (r : RelH w0 O ρ H w Φ) (hb : H id = some (.ints k l)) {v : Value} (d : DenV w0 O ρ x v) : DenV w0 O ρ (.sl id 0 o 1 0 n false) v := by
  unfold vwI at h
  split at h
  · rename_i j
    split at h
    · rename_i hj
      have hj := Nat.eq_of_beq_eq_true hj
      subst hj
      simp only [Option.some.injEq, Prod.mk.injEq] at h
      obtain ⟨rfl, rfl⟩ := h
      obtain ⟨d, _⟩ := denV_cell (c := .own j) d (by simp) rfl
      simp only [DenC] at d
      obtain ⟨loc, len, cap, e1, e2⟩ := d
      simp at e2; subst e2
      obtain ⟨hd, f1, f2⟩ := r.holds j _ hb
      rw [e1] at f1; cases f1
      obtain ⟨g1, g2, g3, g4⟩ := f2
      have g1 : len = l.length := g1
      subst g1
      refine den_cell rfl rfl ?_
      simp only [DenC]
      refine ⟨_, cap, rfl, g2, ⟨by simp, ?_⟩, fun hpos => ?_⟩
      · cases loc with
        | none => exact .inl rfl
        | some y => exact .inr ⟨y.1, y.2, rfl⟩
      · cases loc with
        | none => have := g4.1; omega
        | some y => exact ⟨_, y.1, y.2, e1, rfl, by simp⟩
    · simp at h
  · rename_i j m off s len kn
    split at h
    · rename_i hj
      simp only [Bool.and_eq_true] at hj
      have hj1 := Nat.eq_of_beq_eq_true hj.1
      have hj2 := Nat.eq_of_beq_eq_true hj.2
      subst hj1; subst hj2
      simp only [Option.some.injEq, Prod.mk.injEq] at h
      obtain ⟨rfl, rfl⟩ := h
      obtain ⟨d, _⟩ := denV_cell (c := .sl j m off 1 0 len kn) d (by simp) rfl
      simp only [DenC] at d
      obtain ⟨a, cap, e1, e2, ⟨_, e3⟩, e4⟩ := d
      simp at e1; subst e1
      refine den_cell rfl rfl ?_
      simp only [DenC]
      exact ⟨a, cap, rfl, e2, ⟨by simp, e3⟩, e4⟩
    · simp at h
  · simp at h
end
/-- the marks behind a list's end -/
def markN (i : Nat) : Int := scut .u8 (161 + (i : Int).tmod 7)
def roomL (la : List Int) : List Int := (List.range (la.length + 70)).map fun i => if i < la.length then la.getD i 0 else markN i
theorem roomL_len (la : List Int) : (roomL la).length = la.length + 70 := by simp [roomL]
theorem roomL_get (la : List Int) {i : Nat} (h : i < la.length + 70) : (roomL la).getD i 0 = if i < la.length then la.getD i 0 else markN i := by
  unfold roomL
  rw [List.getD_eq_getElem?_getD, List.getElem?_map, List.getElem?_range h]; rfl
/-- the first i of n numbers, behind them noughts -/
def partF (f : Nat → Int) (n i : Nat) : List Int := (List.range n).map fun j => if j < i then f j else 0
theorem partF_len (f : Nat → Int) (n i : Nat) : (partF f n i).length = n := by simp [partF]
theorem partF_get (f : Nat → Int) {n i p : Nat} (h : p < n) : (partF f n i).getD p 0 = if p < i then f p else 0 := by
  unfold partF
  rw [List.getD_eq_getElem?_getD, List.getElem?_map, List.getElem?_range h]; rfl
theorem extI {l l' : List Int} (h : l.length = l'.length) (h2 : ∀ p, p < l.length → l.getD p 0 = l'.getD p 0) : l = l' := by
  apply List.ext_getElem h
  intro p h1 h3
  have := h2 p h1
  rw [List.getD_eq_getElem?_getD, List.getD_eq_getElem?_getD, List.getElem?_eq_getElem h1, List.getElem?_eq_getElem h3] at this
  simpa using this
theorem setI {l : List Int} {k p : Nat} {v : Int} (hp : p < l.length) : (l.set k v).getD p 0 = if k = p then v else l.getD p 0 := by
  rw [List.getD_eq_getElem?_getD, List.getElem?_set, List.getD_eq_getElem?_getD]
  split
  · rename_i e; subst e; simp [hp]
  · rfl
theorem partF_zero (f : Nat → Int) (n : Nat) : partF f n 0 = List.replicate n 0 := by
  refine extI (by simp [partF_len]) fun p hp => ?_
  rw [partF_len] at hp
  rw [partF_get f hp, if_neg (by omega), List.getD_eq_getElem?_getD, List.getElem?_replicate, if_pos hp]; rfl
theorem partF_set (f : Nat → Int) {n i : Nat} (h : i < n) : (partF f n i).set i (f i) = partF f n (i + 1) := by
  refine extI (by simp [partF_len]) fun p hp => ?_
  rw [List.length_set, partF_len] at hp
  rw [setI (by rw [partF_len]; exact hp), partF_get f hp, partF_get f hp]
  by_cases e : i = p
  · subst e; rw [if_pos rfl, if_pos (by omega)]
  · rw [if_neg e]
    by_cases e2 : p < i
    · rw [if_pos e2, if_pos (by omega)]
    · rw [if_neg e2, if_neg (by omega)]
theorem partF_all (f : Nat → Int) (l : List Int) (h : ∀ p, p < l.length → f p = l.getD p 0) : partF f l.length l.length = l := by
  refine extI (by simp [partF_len]) fun p hp => ?_
  rw [partF_len] at hp
  rw [partF_get f hp, if_pos hp, h p hp]
theorem set_set (l : List Int) (i : Nat) (a b : Int) : (l.set i a).set i b = l.set i b := by simp
section
variable {w0 : World} {O : Own} {ρ : Rho} {w : World} {H : Nat → Option Body} {Φ : Nat → Foot}
theorem cellsOf_ints (k : IntKind) (l : List Int) : cellsOf (.ints k l) = svF (List.replicate l.length k) (atL l) 0 := by
  apply List.ext_getElem?
  intro j
  rw [svF_get]
  simp only [cellsOf, List.getElem?_map, List.getElem?_replicate]
  by_cases h : j < l.length
  · rw [if_pos h, List.getElem?_eq_getElem h]
    simp [atL, h]
  · rw [if_neg h, List.getElem?_eq_none (by omega)]; rfl
theorem holds_asInts {n : Nat} {k : IntKind} {cs : List SV} {ns : List Int} (hn : numsAs (List.replicate n k) cs = some ns) {b base : Nat} {F : Foot} (h : Holds w0 O ρ w (.cells cs) (.at b base) F) : Holds w0 O ρ w (.ints k ns) (.at b base) F := by
  have hi := cells_nums hn
  have h2 := holds_imp hi.1 (fun l hl => hi.2 l hl) h
  obtain ⟨h3, h4, h5⟩ := h2
  have e : cellsOf (.ints k ns) = cellsOf (.cells (svF (List.replicate n k) (atL ns) 0)) := by
    rw [cellsOf_ints]
    have := (numsAs_len hn).1
    rw [List.length_replicate] at this
    rw [this]; rfl
  refine ⟨trivial, ?_, ?_⟩
  · rw [e]; exact h4
  · rw [e]; exact h5
theorem holds_asCells {k : IntKind} {ns : List Int} {b base : Nat} {F : Foot} (h : Holds w0 O ρ w (.ints k ns) (.at b base) F) : Holds w0 O ρ w (.cells (svF (List.replicate ns.length k) (atL ns) 0)) (.at b base) F := by
  obtain ⟨h3, h4, h5⟩ := h
  rw [cellsOf_ints] at h4 h5
  exact ⟨trivial, h4, h5⟩
/-- one chunk, told of in other words -/
theorem RelH.swap (x : RelH w0 O ρ H w Φ) {i : Nat} {bd bd' : Body} (hb : H i = some bd) (h : ∀ hd, ρ i = some hd → Holds w0 O ρ w bd hd (Φ i) → Holds w0 O ρ w bd' hd (Φ i)) : RelH w0 O ρ (upH H i (some bd')) w Φ := by
  have hn : ∀ id, upH H i (some bd') id ≠ none → H id ≠ none := fun id hid => by
    unfold upH at hid
    split at hid
    · rename_i e; subst e; rw [hb]; simp
    · exact hid
  refine ⟨x.frame, fun id b0 h0 => ?_, fun id id' b o hne h1 h2 => x.disj id id' b o hne (hn _ h1) (hn _ h2), fun id b o h1 => x.mine id b o (hn _ h1)⟩
  unfold upH at h0
  split at h0
  · rename_i e; subst e
    simp only [Option.some.injEq] at h0; subst h0
    obtain ⟨hd, q1, q2⟩ := x.holds id bd hb
    exact ⟨hd, q1, h hd q1 q2⟩
  · exact x.holds id b0 h0
/-- cells that are numbers, as a list of them -/
theorem FnOk.asInts {g : Ctx} {f : FuncId} {args : List SV} {B : List Body} {i n : Nat} {k : IntKind} {cs : List SV} {ns ns' : List Int} {out out' : OpOut} (hB : B[i]? = some (.cells cs)) (hn : numsAs (List.replicate n k) cs = some ns)
    (h : FnOk g f args (B.set i (.ints k ns)) out) (h1 : afterH (B.set i (.ints k ns)) out i = some (.ints k ns')) (hnew : out'.new.length = out.new.length) (hval : out'.val = out.val)
    (hA : ∀ j, afterH B out' j = upH (afterH (B.set i (.ints k ns)) out) i (some (.cells (svF (List.replicate ns'.length k) (atL ns') 0))) j) : FnOk g f args B out' := by
  have hi : i < B.length := (List.getElem?_eq_some_iff.1 hB).1
  intro w0 O hG ρ Φ vs w d x hr
  obtain ⟨hd, r1, r2⟩ := x.holds i _ hB
  cases hd with
  | sl a b c => exact r2.elim
  | «at» b base =>
    have x1 := x.swap (i := i) (bd' := .ints k ns) hB fun hd hh hq => by
      rw [r1] at hh; cases hh
      exact holds_asInts hn hq
    have x1 := relH_funext (H' := BH (B.set i (.ints k ns))) (fun j => by
      unfold upH BH
      by_cases e : j = i
      · subst e; simp [hi]
      · rw [if_neg e, List.getElem?_set_ne (Ne.symm e)]) x1
    refine (h w0 O hG ρ Φ vs w d x1 (fun j hj => hr j (by simpa using hj))).mono fun u w' ⟨ρ', Φ', q1, q2, q3, q4⟩ => ?_
    refine ⟨ρ', Φ', by rw [hval]; exact q1, q2, fun j hj => q3 j (by simpa [hnew] using hj), relH_funext (fun j => (hA j).symm) ?_⟩
    exact q4.swap h1 fun hd hh hq => by
      rw [q2 i _ r1] at hh; cases hh
      exact holds_asCells hq
end
theorem run_parts {α β γ : Type} {x : Option (α × β × γ)} {a : α} {b : β} {c : γ} (h1 : x.map (·.1) = some a) (h2 : x.map (·.2.1) = some b) (h3 : x.map (·.2.2) = some c) : x = some (a, b, c) := by
  cases x with
  | none => simp at h1
  | some y =>
    obtain ⟨y1, y2, y3⟩ := y
    simp at h1 h2 h3
    subst h1; subst h2; subst h3; rfl
end Go.Vx

/- Plain law of numbers in bytes, as lists: what is carried, folded, least modulo 2^130 - 5. -/
namespace Go.Vx

/-- what is carried out of the first digits -/
def bcr (t : Nat → Int) : Nat → Int
  | 0 => 0
  | i + 1 => (bcr t i + t i) / 256
theorem bcr_leN {t : Nat → Int} : ∀ (i n : Nat), leN (i + n) t 0 / ((256 ^ i : Nat) : Int) = bcr t i + leN n t i
  | 0, n => by simp [bcr]
  | i + 1, n => by
    have ih := bcr_leN (t := t) i (n + 1)
    have e : ((256 ^ (i + 1) : Nat) : Int) = ((256 ^ i : Nat) : Int) * 256 := by rw [Nat.pow_succ]; omega
    rw [e, ← Int.ediv_ediv_of_nonneg (by exact Int.natCast_nonneg _), show i + 1 + n = i + (n + 1) by omega, ih]
    simp only [leN, bcr]
    omega
theorem bcr_end {t : Nat → Int} (n : Nat) : leN n t 0 / ((256 ^ n : Nat) : Int) = bcr t n := by
  have := bcr_leN (t := t) n 0
  simpa [leN] using this
theorem bcr_byte {t : Nat → Int} {n i : Nat} (hi : i < n) : (bcr t i + t i) % 256 = byteN (leN n t 0) i := by
  have e := bcr_leN (t := t) i (n - 1 - i + 1)
  rw [show i + (n - 1 - i + 1) = n by omega] at e
  unfold byteN
  rw [e]; simp only [leN]; omega
theorem bcr_bound {t : Nat → Int} {n : Nat} {M : Int} (hM : 0 ≤ M) (h : ∀ i, i < n → 0 ≤ t i ∧ t i ≤ M) : ∀ i, i ≤ n → 0 ≤ bcr t i ∧ bcr t i ≤ M
  | 0, _ => by simp only [bcr]; omega
  | i + 1, hi => by
    have ih := bcr_bound hM h i (by omega)
    have := h i (by omega)
    simp only [bcr]
    omega
def cdP (l : List Int) (n : Nat) : List Int := (List.range n).map fun i => (bcr (atL l) i + atL l i) % 256
theorem cdP_succ (l : List Int) (n : Nat) : cdP l (n + 1) = cdP l n ++ [(bcr (atL l) n + atL l n) % 256] := by
  unfold cdP; rw [List.range_succ, List.map_append]; rfl
theorem listF_map (n : Nat) (f : Nat → Int) : listF n f 0 = (List.range n).map f := by
  apply List.ext_getElem?
  intro j
  rw [listF_get, List.getElem?_map]
  by_cases h : j < n
  · rw [if_pos h, List.getElem?_range h, Nat.zero_add]; rfl
  · rw [if_neg h, List.getElem?_eq_none (by simp; omega)]; rfl
abbrev valL (l : List Int) : Int := leN l.length (atL l) 0
theorem cdP_all (l : List Int) : cdP l l.length = listF l.length (byteN (valL l)) 0 := by
  rw [listF_map]
  unfold cdP
  refine List.map_congr_left fun i hi => ?_
  exact bcr_byte (List.mem_range.1 hi)

theorem leN_congr : ∀ (n : Nat) {f g : Nat → Int} (i : Nat), (∀ j, j < n → f (i + j) = g (i + j)) → leN n f i = leN n g i
  | 0, _, _, _, _ => rfl
  | n + 1, f, g, i, h => by
    simp only [leN]
    have h0 := h 0 (by omega)
    rw [Nat.add_zero] at h0
    have h1 := leN_congr n (f := f) (g := g) (i + 1) (fun j hj => by have := h (j + 1) (by omega); rw [show i + 1 + j = i + (j + 1) by omega]; exact this)
    rw [h0, h1]
theorem leN_plus : ∀ (n : Nat) (f g : Nat → Int) (i : Nat), leN n (fun j => f j + g j) i = leN n f i + leN n g i
  | 0, _, _, _ => by simp [leN]
  | n + 1, f, g, i => by simp only [leN]; rw [leN_plus n f g (i + 1)]; omega
theorem leN_times (c : Int) : ∀ (n : Nat) (f : Nat → Int) (i : Nat), leN n (fun j => c * f j) i = c * leN n f i
  | 0, _, _ => by simp [leN]
  | n + 1, f, i => by
    simp only [leN]; rw [leN_times c n f (i + 1), Int.mul_add, ← Int.mul_assoc, ← Int.mul_assoc, Int.mul_comm c 256]
theorem leN_null : ∀ (n : Nat) {f : Nat → Int} (i : Nat), (∀ j, j < n → f (i + j) = 0) → leN n f i = 0
  | 0, _, _, _ => rfl
  | n + 1, f, i, h => by
    simp only [leN]
    have h0 := h 0 (by omega)
    rw [Nat.add_zero] at h0
    rw [h0, leN_null n (i + 1) fun j hj => by have := h (j + 1) (by omega); rw [show i + 1 + j = i + (j + 1) by omega]; exact this]
    rfl
theorem leN_moved : ∀ (n : Nat) {f g : Nat → Int} (i k : Nat), (∀ j, j < n → f (i + j) = g (k + j)) → leN n f i = leN n g k
  | 0, _, _, _, _, _ => rfl
  | n + 1, f, g, i, k, h => by
    simp only [leN]
    have h0 := h 0 (by omega)
    rw [Nat.add_zero, Nat.add_zero] at h0
    rw [h0, leN_moved n (i + 1) (k + 1) fun j hj => by have := h (j + 1) (by omega); rw [show i + 1 + j = i + (j + 1) by omega, show k + 1 + j = k + (j + 1) by omega]; exact this]
theorem leN_pos : ∀ (n : Nat) {f : Nat → Int} (i : Nat), (∀ j, j < n → 0 ≤ f (i + j)) → 0 ≤ leN n f i
  | 0, _, _, _ => by simp [leN]
  | n + 1, f, i, h => by
    simp only [leN]
    have h0 := h 0 (by omega)
    rw [Nat.add_zero] at h0
    have := leN_pos n (f := f) (i + 1) fun j hj => by have := h (j + 1) (by omega); rw [show i + 1 + j = i + (j + 1) by omega]; exact this
    omega
/-! ### what lies above 130 digits -/
abbrev E130 : Int := 1361129467683753853853498429727072845824
def foldV (V : Int) : Int := V % E130 + 5 * (V / E130)
def hQ (f : Nat → Int) (j : Nat) : Int := f j / 4 + f (j + 1) % 4 * 64
theorem leN_hQ (f : Nat → Int) : ∀ (m i : Nat), leN m (hQ f) i = (leN m f i + ((256 ^ m : Nat) : Int) * (f (i + m) % 4)) / 4
  | 0, i => by simp only [leN]; have : ((256 ^ 0 : Nat) : Int) = 1 := rfl; rw [this]; omega
  | m + 1, i => by
    simp only [leN]
    rw [leN_hQ f m (i + 1)]
    have e : ((256 ^ (m + 1) : Nat) : Int) = 256 * ((256 ^ m : Nat) : Int) := by rw [Nat.pow_succ]; omega
    rw [e, show i + 1 + m = i + (m + 1) by omega, Int.mul_assoc]
    unfold hQ
    cases m with
    | zero =>
      simp only [leN]
      have : ((256 ^ 0 : Nat) : Int) = 1 := rfl
      rw [this, show i + (0 + 1) = i + 1 from rfl]
      omega
    | succ m =>
      have e : ((256 ^ (m + 1) : Nat) : Int) = 256 * ((256 ^ m : Nat) : Int) := by rw [Nat.pow_succ]; omega
      rw [e, Int.mul_assoc]
      simp only [leN]
      generalize ((256 ^ m : Nat) : Int) * (f (i + (m + 1 + 1)) % 4) = Y
      generalize leN m f (i + 1 + 1) = Z
      omega
def lowF (f : Nat → Int) (j : Nat) : Int := if j < 16 then f j else f 16 % 4
def lowS (f : Nat → Int) (k j : Nat) : Int := lowF f j + (if j < k then 5 * hQ f (16 + j) else 0)
theorem p256_16 : ((256 ^ 16 : Nat) : Int) = 340282366920938463463374607431768211456 := rfl
theorem low_fold {l : List Int} (h1 : 17 ≤ l.length) (h2 : l.length ≤ 33) (hb : ∀ j, j < l.length → Byte (atL l j)) : leN 17 (lowS (atL l) (l.length - 16)) 0 = foldV (valL l) := by
  obtain ⟨m, hm⟩ : ∃ m, l.length = 16 + (m + 1) := ⟨l.length - 17, by omega⟩
  have hz : atL l (16 + (m + 1)) = 0 := by unfold atL; rw [List.getD_eq_getElem?_getD, List.getElem?_eq_none (by omega)]; rfl
  have hm' : m + 1 ≤ 17 := by omega
  unfold valL
  rw [hm] at hb ⊢
  rw [show 16 + (m + 1) - 16 = m + 1 by omega]
  have e0 : leN 17 (lowS (atL l) (m + 1)) 0 = leN 17 (lowF (atL l)) 0 + leN 17 (fun j => if j < m + 1 then 5 * hQ (atL l) (16 + j) else 0) 0 := leN_plus 17 _ _ 0
  have e1 : leN 17 (lowF (atL l)) 0 = leN 16 (atL l) 0 + ((256 ^ 16 : Nat) : Int) * (atL l 16 % 4) := by
    have c1 : leN 16 (lowF (atL l)) 0 = leN 16 (atL l) 0 := leN_congr 16 0 fun j hj => by rw [Nat.zero_add]; unfold lowF; rw [if_pos hj]
    have c2 : leN 1 (lowF (atL l)) (0 + 16) = atL l 16 % 4 := by simp only [leN, Nat.zero_add]; unfold lowF; simp
    rw [show (17 : Nat) = 16 + 1 from rfl, leN_add, c1, c2]
  have e2 : leN 17 (fun j => if j < m + 1 then 5 * hQ (atL l) (16 + j) else 0) 0 = 5 * leN (m + 1) (hQ (atL l)) 16 := by
    have ec := leN_add (m + 1) (17 - (m + 1)) (fun j => if j < m + 1 then 5 * hQ (atL l) (16 + j) else 0) 0
    rw [show m + 1 + (17 - (m + 1)) = 17 by omega] at ec
    rw [ec, leN_null (17 - (m + 1)) (0 + (m + 1)) (fun j hj => if_neg (by omega)), Int.mul_zero, Int.add_zero, ← leN_times]
    exact leN_moved (m + 1) 0 16 fun j hj => by rw [Nat.zero_add]; exact if_pos hj
  have e3 := leN_hQ (atL l) (m + 1) 16
  have e4 := leN_add 16 (m + 1) (atL l) 0
  rw [Nat.zero_add] at e4
  have b1 := leN_nonneg 16 (f := atL l) 0 fun j hj => by rw [Nat.zero_add]; exact hb j (by omega)
  rw [e0, e1, e2, e3, e4, hz, p256_16]
  have e5 : leN (m + 1) (atL l) 16 = atL l 16 + 256 * leN m (atL l) (16 + 1) := rfl
  rw [p256_16] at b1
  unfold foldV
  rw [e5]
  have : (0 : Int) % 4 = 0 := rfl
  rw [this, Int.mul_zero, Int.add_zero]
  generalize leN m (atL l) (16 + 1) = Z at *
  generalize leN 16 (atL l) 0 = L at *
  generalize atL l 16 = x at *
  clear e0 e1 e2 e3 e4 e5 this hb hz hm hm' h1 h2
  simp only [E130]
  omega
theorem hQ_byte {f : Nat → Int} {j : Nat} (h1 : Byte (f j)) (h2 : Byte (f (j + 1))) : 0 ≤ hQ f j ∧ hQ f j < 256 := by
  unfold Byte at h1 h2
  unfold hQ; omega
theorem byte_zero {l : List Int} {n : Nat} (hn : l.length = n) (hb : ∀ j, j < n → Byte (atL l j)) (j : Nat) : Byte (atL l j) := by
  by_cases h : j < n
  · exact hb j h
  · unfold atL; rw [List.getD_eq_getElem?_getD, List.getElem?_eq_none (by omega)]; exact ⟨by decide, by decide⟩
theorem lowS_bound {f : Nat → Int} (h : ∀ j, Byte (f j)) (k j : Nat) : 0 ≤ lowS f k j ∧ lowS f k j < 2000 := by
  have h1 := hQ_byte (h (16 + j)) (h (16 + j + 1))
  have h2 := h j
  have h3 := h 16
  unfold Byte at h2 h3
  unfold lowS lowF
  split <;> split <;> omega
theorem atLF {n : Nat} {a : Nat → Int} {j : Nat} (hj : j < n) : atL (listF n a 0) j = a j := by
  show (listF n a 0).getD j 0 = _
  rw [List.getD_eq_getElem?_getD, listF_get, if_pos hj, Nat.zero_add]; rfl
theorem valL_listF (n : Nat) (a : Nat → Int) : valL (listF n a 0) = leN n a 0 := by
  unfold valL
  rw [listF_length]
  exact leN_congr n 0 fun j hj => by rw [Nat.zero_add]; exact atLF hj
theorem low_set {f : Nat → Int} {k : Nat} (hk : k < 17) : (listF 17 (lowS f k) 0).set k ((listF 17 (lowS f k) 0).getD k 0 + 5 * hQ f (16 + k)) = listF 17 (lowS f (k + 1)) 0 := by
  refine extI (by simp [listF_length]) fun p hp => ?_
  rw [List.length_set, listF_length] at hp
  rw [setI (by rw [listF_length]; exact hp)]
  have e1 : ∀ k j, j < 17 → (listF 17 (lowS f k) 0).getD j 0 = lowS f k j := fun k j hj => atLF hj
  rw [e1 _ _ hk, e1 _ _ hp, e1 _ _ hp]
  unfold lowS
  by_cases e : k = p
  · subst e
    rw [if_pos rfl, if_neg (by omega), if_pos (by omega)]; omega
  · rw [if_neg e]
    by_cases h : p < k
    · rw [if_pos h, if_pos (by omega)]
    · rw [if_neg h, if_neg (by omega)]
theorem hs_succ {f : Nat → Int} (h : ∀ j, Byte (f j)) (k : Nat) : (decide (0 < leN (k + 1) (hQ f) 16)) = (decide (0 < leN k (hQ f) 16) || decide (0 < hQ f (16 + k))) := by
  rw [leN_add k 1]
  have h0 : 0 ≤ leN k (hQ f) 16 := leN_pos k 16 fun j _ => (hQ_byte (h _) (h _)).1
  have h1 : 0 ≤ hQ f (16 + k) := (hQ_byte (h _) (h _)).1
  have e : leN 1 (hQ f) (16 + k) = hQ f (16 + k) := by simp [leN]
  have hp : (0 : Int) < ((256 ^ k : Nat) : Int) := by exact_mod_cast Nat.pow_pos (by decide)
  rw [e]
  have h2 : 0 ≤ ((256 ^ k : Nat) : Int) * hQ f (16 + k) := Int.mul_nonneg (by omega) h1
  by_cases a : 0 < leN k (hQ f) 16
  · rw [decide_eq_true a, decide_eq_true (show 0 < leN k (hQ f) 16 + ((256 ^ k : Nat) : Int) * hQ f (16 + k) by omega)]; rfl
  · have a0 : leN k (hQ f) 16 = 0 := by omega
    rw [a0, Int.zero_add]
    by_cases b : 0 < hQ f (16 + k)
    · rw [decide_eq_true b, decide_eq_true (Int.mul_pos hp b)]; rfl
    · have b0 : hQ f (16 + k) = 0 := by omega
      rw [b0, Int.mul_zero]; rfl
theorem hs_all {l : List Int} (h1 : 17 ≤ l.length) (hb : ∀ j, j < l.length → Byte (atL l j)) : decide (0 < leN (l.length - 16) (hQ (atL l)) 16) = decide (E130 ≤ valL l) := by
  have hz : atL l (16 + (l.length - 16)) = 0 := by unfold atL; rw [List.getD_eq_getElem?_getD, List.getElem?_eq_none (by omega)]; rfl
  have e3 := leN_hQ (atL l) (l.length - 16) 16
  have e4 := leN_add 16 (l.length - 16) (atL l) 0
  rw [Nat.zero_add, show 16 + (l.length - 16) = l.length by omega] at e4
  have b1 := leN_nonneg 16 (f := atL l) 0 fun j hj => by rw [Nat.zero_add]; exact hb j (by omega)
  rw [e3, hz]
  unfold valL
  rw [e4, p256_16] at *
  have : (0 : Int) % 4 = 0 := rfl
  rw [this, Int.mul_zero, Int.add_zero]
  generalize leN (l.length - 16) (atL l) 16 = Z at *
  generalize leN 16 (atL l) 0 = L at *
  clear e3 e4 hz hb h1 this
  by_cases a : 0 < Z / 4
  · rw [decide_eq_true a, decide_eq_true]; simp only [E130]; omega
  · rw [decide_eq_false a, decide_eq_false]; simp only [E130]; omega
/-! ### least -/
def redF : Nat → Int → Int
  | 0, V => V
  | n + 1, V => if V < E130 then V else redF n (foldV V)
theorem foldV_mod (V : Int) : foldV V % P5 = V % P5 := by
  unfold foldV P5
  simp only [E130]
  have := Int.mul_ediv_add_emod V 1361129467683753853853498429727072845824
  have h2 : V % 1361129467683753853853498429727072845824 + 5 * (V / 1361129467683753853853498429727072845824) = V - 1361129467683753853853498429727072845819 * (V / 1361129467683753853853498429727072845824) := by omega
  rw [h2, Int.sub_mul_emod_self_left]
def bndR : Nat → Int
  | 0 => E130
  | 1 => E130 + 1000
  | 2 => E130 * 128
  | _ => E130 * E130
theorem foldV_bnd {V : Int} (h0 : 0 ≤ V) : ∀ n, n ≤ 2 → V < bndR (n + 1) → 0 ≤ foldV V ∧ (E130 ≤ V → foldV V < bndR n)
  | 0, _, h => by unfold foldV; simp only [bndR, E130] at *; omega
  | 1, _, h => by unfold foldV; simp only [bndR, E130] at *; omega
  | 2, _, h => by unfold foldV; simp only [bndR, E130] at *; omega
  | n + 3, hn, _ => by omega
theorem redF_spec : ∀ (n : Nat) {V : Int}, n ≤ 3 → 0 ≤ V → V < bndR n → 0 ≤ redF n V ∧ redF n V < E130 ∧ redF n V % P5 = V % P5
  | 0, V, _, h0, h => ⟨h0, h, rfl⟩
  | n + 1, V, hn, h0, h => by
    simp only [redF]
    split
    · rename_i hv; exact ⟨h0, hv, rfl⟩
    · rename_i hv
      obtain ⟨f1, f2⟩ := foldV_bnd h0 n (by omega) h
      obtain ⟨r1, r2, r3⟩ := redF_spec n (V := foldV V) (by omega) f1 (f2 (by omega))
      exact ⟨r1, r2, by rw [r3, foldV_mod]⟩
def hiM (i : Nat) : Int := if i = 16 then 3 else 255
def hiF (V : Int) : Nat → Bool
  | 0 => true
  | i + 1 => hiF V i && decide (byteN V (i + 1) = hiM (i + 1))
theorem hiF_all {V : Int} : ∀ n, hiF V n = true ↔ ∀ i, 1 ≤ i → i ≤ n → byteN V i = hiM i
  | 0 => by simp [hiF]; intro i h1 h2; omega
  | n + 1 => by
    simp only [hiF, Bool.and_eq_true, decide_eq_true_eq, hiF_all n]
    constructor
    · rintro ⟨h1, h2⟩ i hi hn
      by_cases e : i = n + 1
      · rw [e]; exact h2
      · exact h1 i hi (by omega)
    · intro h
      exact ⟨fun i h1 h2 => h i h1 (by omega), h _ (by omega) (by omega)⟩
theorem bndR_le : ∀ n, n ≤ 3 → bndR n ≤ E130 * E130
  | 0, _ => by simp only [bndR, E130]; decide
  | 1, _ => by simp only [bndR, E130]; decide
  | 2, _ => by simp only [bndR, E130]; decide
  | 3, _ => Int.le_refl _
  | n + 4, h => by omega
theorem fold_lt {V : Int} (h0 : 0 ≤ V) (h : V < E130 * E130) : 0 ≤ foldV V ∧ foldV V < 87112285931760246646623899502532662132736 := by
  unfold foldV
  simp only [E130] at *
  omega
theorem foldV_small {V : Int} (h0 : 0 ≤ V) (h : V < E130) : foldV V = V := by
  unfold foldV
  rw [Int.emod_eq_of_lt h0 h, Int.ediv_eq_zero_of_lt h0 h]; omega
theorem redF_small {V : Int} (h : V < E130) : ∀ n, redF n V = V
  | 0 => rfl
  | n + 1 => by simp only [redF]; rw [if_pos h]
theorem val_bytes {n : Nat} {N : Int} (h0 : 0 ≤ N) (h : N < ((256 ^ n : Nat) : Int)) : valL (listF n (byteN N) 0) = N := by
  rw [valL_listF, leN_byte]
  have : ((256 ^ 0 : Nat) : Int) = 1 := rfl
  rw [this, Int.ediv_one, Int.emod_eq_of_lt h0 h]
theorem bytes_list {n : Nat} {N : Int} (j : Nat) (hj : j < (listF n (byteN N) 0).length) : Byte (atL (listF n (byteN N) 0) j) := by
  rw [listF_length] at hj
  rw [atLF hj]
  exact ⟨Int.emod_nonneg _ (by decide), Int.emod_lt_of_pos _ (by decide)⟩
theorem hi_iff {V : Int} (h0 : 0 ≤ V) (h1 : V < E130) : hiF V 16 = true ↔ E130 - 256 ≤ V := by
  have hd : ∀ i, byteN V (i + 1) = V / 256 / ((256 ^ i : Nat) : Int) % 256 := fun i => by
    unfold byteN
    have e : ((256 ^ (i + 1) : Nat) : Int) = 256 * ((256 ^ i : Nat) : Int) := by rw [Nat.pow_succ]; omega
    rw [e, ← Int.ediv_ediv_of_nonneg (by decide)]
  have hv : valL (listF 17 (byteN V) 0) = V := val_bytes h0 (Int.lt_trans h1 (by decide))
  rw [hiF_all]
  constructor
  · intro h
    rw [valL_listF] at hv
    have e : leN 17 (byteN V) 0 = byteN V 0 + 256 * leN 16 (byteN V) 1 := rfl
    have e2 : leN 16 (byteN V) 1 = leN 16 hiM 1 := leN_congr 16 1 fun j hj => by rw [h (1 + j) (by omega) (by omega)]
    have e3 : leN 16 hiM 1 = 5316911983139663491615228241121378303 := by decide +kernel
    have hb : 0 ≤ byteN V 0 := Int.emod_nonneg _ (by decide)
    rw [e2, e3] at e
    rw [e] at hv
    simp only [E130]
    omega
  · intro h i h2 h3
    have hq : V / 256 = 5316911983139663491615228241121378303 := by simp only [E130] at *; omega
    obtain ⟨i, rfl⟩ : ∃ k, i = k + 1 := ⟨i - 1, by omega⟩
    rw [hd, hq]
    have hf : ∀ k : Fin 16, (5316911983139663491615228241121378303 : Int) / ((256 ^ k.val : Nat) : Int) % 256 = hiM (k.val + 1) := by decide +kernel
    exact hf ⟨i, by omega⟩
def leastR (V : Int) : Bool → Bool → Nat → Int
  | true, true => fun j => if j = 0 then byteN V 0 - 251 else 0
  | _, _ => byteN V
theorem least_hi {V : Int} (h0 : 0 ≤ V) (h1 : V < E130) : byteN V 0 = V % 256 := by
  unfold byteN
  have : ((256 ^ 0 : Nat) : Int) = 1 := rfl
  rw [this, Int.ediv_one]
theorem least_bytes {V : Int} (h0 : 0 ≤ V) (h1 : V < E130) (j : Nat) : leastR V (hiF V 16) (decide (251 ≤ byteN V 0)) j = byteN (V % P5) j := by
  have e0 := least_hi h0 h1
  have hi := hi_iff h0 h1
  cases a : hiF V 16 with
  | false =>
    have : ¬ E130 - 256 ≤ V := fun h => by rw [hi.2 h] at a; simp at a
    have e : V % P5 = V := Int.emod_eq_of_lt h0 (by unfold P5; simp only [E130] at *; omega)
    rw [e]; rfl
  | true =>
    have h2 := hi.1 a
    cases b : decide (251 ≤ byteN V 0) with
    | false =>
      have b := of_decide_eq_false b
      have e : V % P5 = V := Int.emod_eq_of_lt h0 (by unfold P5; simp only [E130] at *; omega)
      rw [e]; rfl
    | true =>
      have b := of_decide_eq_true b
      have e : V % P5 = V % 256 - 251 := by unfold P5; simp only [E130] at *; omega
      rw [e]
      show (if j = 0 then byteN V 0 - 251 else 0) = _
      rw [e0] at b ⊢
      have hs : 0 ≤ V % 256 - 251 ∧ V % 256 - 251 < 256 := by omega
      split
      · rename_i hj; subst hj
        unfold byteN
        have : ((256 ^ 0 : Nat) : Int) = 1 := rfl
        rw [this, Int.ediv_one]; omega
      · rename_i hj
        obtain ⟨k, rfl⟩ : ∃ k, j = k + 1 := ⟨j - 1, by omega⟩
        unfold byteN
        have e : ((256 ^ (k + 1) : Nat) : Int) = 256 * ((256 ^ k : Nat) : Int) := by rw [Nat.pow_succ]; omega
        rw [e, ← Int.ediv_ediv_of_nonneg (by decide), Int.ediv_eq_zero_of_lt hs.1 hs.2, Int.zero_ediv]
        rfl
/-! ### products -/
def mvC (a b : Nat → Int) : Nat → Nat → Int
  | 0, _ => 0
  | i + 1, j => bif (Nat.ble i j).and (Nat.blt j (i + 17)) then mvC a b i j + a i * b (j - i) else mvC a b i j
def mvR (a b : Nat → Int) (i j : Nat) : Int := bif (Nat.ble i j).and (Nat.blt j (i + 17)) then a i * b (j - i) else 0
theorem mvC_succ (a b : Nat → Int) (i j : Nat) : mvC a b (i + 1) j = mvC a b i j + mvR a b i j := by
  simp only [mvC, mvR]
  cases (Nat.ble i j).and (Nat.blt j (i + 17)) <;> simp
theorem mv_in {a b : Nat → Int} {i j : Nat} (h : i ≤ j) (h2 : j < i + 17) : mvR a b i j = a i * b (j - i) := by
  unfold mvR
  rw [Nat.ble_eq_true_of_le h, show Nat.blt j (i + 17) = true from Nat.ble_eq_true_of_le h2]; rfl
theorem mv_out {a b : Nat → Int} {i j : Nat} (h : j < i ∨ i + 17 ≤ j) : mvR a b i j = 0 := by
  unfold mvR
  have : (Nat.ble i j).and (Nat.blt j (i + 17)) = false := by
    rcases h with h | h
    · have : Nat.ble i j = false := by
        cases e : Nat.ble i j with
        | false => rfl
        | true => have := Nat.le_of_ble_eq_true e; omega
      rw [this]; rfl
    · have : Nat.blt j (i + 17) = false := by
        cases e : Nat.blt j (i + 17) with
        | false => rfl
        | true => have : j + 1 ≤ i + 17 := Nat.le_of_ble_eq_true e; omega
      rw [this]; cases Nat.ble i j <;> rfl
  rw [this]; rfl
theorem leN_row (a b : Nat → Int) {i : Nat} (hi : i < 17) : leN 33 (mvR a b i) 0 = ((256 ^ i : Nat) : Int) * (a i * leN 17 b 0) := by
  have c1 := leN_add i (33 - i) (mvR a b i) 0
  have c2 := leN_add 17 (16 - i) (mvR a b i) (0 + i)
  rw [show i + (33 - i) = 33 by omega] at c1
  rw [show 17 + (16 - i) = 33 - i by omega] at c2
  have e : leN 17 (mvR a b i) (0 + i) = a i * leN 17 b 0 := by
    rw [← leN_times]
    exact leN_moved 17 (0 + i) 0 fun j hj => by rw [mv_in (by omega) (by omega), show 0 + i + j - i = 0 + j by omega]
  rw [c1, c2, leN_null i 0 (fun j hj => mv_out (.inl (by omega))), leN_null (16 - i) (0 + i + 17) (fun j hj => mv_out (.inr (by omega))), Int.zero_add, Int.mul_zero, Int.add_zero, e]
theorem leN_rows (a b : Nat → Int) : ∀ i, i ≤ 17 → leN 33 (mvC a b i) 0 = leN i a 0 * leN 17 b 0
  | 0, _ => by rw [leN_null 33 0 (fun j _ => rfl)]; simp [leN]
  | i + 1, hi => by
    have e : mvC a b (i + 1) = fun j => mvC a b i j + mvR a b i j := funext fun j => mvC_succ a b i j
    have c := leN_add i 1 a 0
    rw [e, leN_plus, leN_rows a b i (by omega), leN_row a b (by omega), c, Int.add_mul]
    have : leN 1 a (0 + i) = a i := by simp [leN]
    rw [this, Int.mul_assoc]
theorem leN_prod (a b : Nat → Int) : leN 33 (mvC a b 17) 0 = leN 17 a 0 * leN 17 b 0 := leN_rows a b 17 (Nat.le_refl _)
theorem mvR_bound {a b : Nat → Int} (ha : ∀ j, j < 17 → Byte (a j)) (hb : ∀ j, j < 17 → Byte (b j)) {i : Nat} (hi : i < 17) (j : Nat) : 0 ≤ mvR a b i j ∧ mvR a b i j ≤ 65025 := by
  by_cases h : i ≤ j ∧ j < i + 17
  · rw [mv_in h.1 h.2]
    have h1 := ha i hi
    have h2 := hb (j - i) (by omega)
    unfold Byte at h1 h2
    have h3 : a i * b (j - i) ≤ 255 * 255 := Int.mul_le_mul (by omega) (by omega) h2.1 (by omega)
    exact ⟨Int.mul_nonneg h1.1 h2.1, by omega⟩
  · rw [mv_out (by omega)]; omega
theorem mv_bound {a b : Nat → Int} (ha : ∀ j, j < 17 → Byte (a j)) (hb : ∀ j, j < 17 → Byte (b j)) : ∀ (i : Nat), i ≤ 17 → ∀ j, 0 ≤ mvC a b i j ∧ mvC a b i j ≤ 65025 * i
  | 0, _, j => by simp [mvC]
  | i + 1, hi, j => by
    have h1 := mv_bound ha hb i (by omega) j
    have h2 := mvR_bound ha hb (show i < 17 by omega) j
    rw [mvC_succ]
    omega
/-! ### what is taken away by Clamp; sums -/
def clD (f : Nat → Int) (j : Nat) : Int := if j = 16 then 0 else if j % 4 = 3 then f j % 16 else if j % 4 = 0 ∧ 0 < j then f j - f j % 4 else f j
theorem uand252 {x : Int} (h : Byte x) : uand x 252 = x - x % 4 := by
  obtain ⟨n, rfl⟩ := Int.eq_ofNat_of_zero_le h.1
  have hn : n < 256 := by have := h.2; omega
  have : ∀ m : Fin 256, (m.val &&& 252) = m.val - m.val % 4 := by decide +kernel
  have e := this ⟨n, hn⟩
  show ((n &&& 252 : Nat) : Int) = _
  simp only at e
  rw [e]; omega
theorem clD_byte {f : Nat → Int} (h : ∀ j, j < 16 → Byte (f j)) (j : Nat) (hj : j < 17) : Byte (clD f j) := by
  unfold clD
  split
  · exact ⟨by decide, by decide⟩
  · have := h j (by omega)
    unfold Byte at this ⊢
    split
    · omega
    · split <;> omega
def dcC (o s : Nat → Int) : Nat → Int
  | 0 => 0
  | i + 1 => (dcC o s i + o i + s i).tdiv 256
def dfL (o s : Nat → Int) : Nat → Nat → List Prop
  | 0, _ => []
  | n + 1, i => Fits .i64 (dcC o s i + o i + s i) :: Fits .i64 (dcC o s i + o i) :: dfL o s n (i + 1)
theorem dcC_spec {o s : Nat → Int} {n : Nat} (ho : ∀ j, j < n → Byte (o j)) (hs : ∀ j, j < n → Byte (s j)) : ∀ i, i ≤ n → 0 ≤ dcC o s i ∧ dcC o s i ≤ 1 ∧ dcC o s i = carry o s i
  | 0, _ => by simp [dcC, carry]
  | i + 1, hi => by
    obtain ⟨h1, h2, h3⟩ := dcC_spec ho hs i (by omega)
    have h4 := ho i (by omega)
    have h5 := hs i (by omega)
    unfold Byte at h4 h5
    simp only [dcC, carry]
    rw [Int.tdiv_eq_ediv_of_nonneg (by omega), ← h3]
    omega
theorem dfL_ok {o s : Nat → Int} {N : Nat} (ho : ∀ j, j < N → Byte (o j)) (hs : ∀ j, j < N → Byte (s j)) : ∀ (n i : Nat), i + n ≤ N → AllC (dfL o s n i)
  | 0, _, _ => by simp [dfL, AllC]
  | n + 1, i, h => by
    obtain ⟨h1, h2, _⟩ := dcC_spec ho hs i (by omega)
    have h4 := ho i (by omega)
    have h5 := hs i (by omega)
    unfold Byte at h4 h5
    simp only [dfL, allC_cons]
    exact ⟨fits_of (by omega) (by omega), fits_of (by omega) (by omega), dfL_ok ho hs n (i + 1) (by omega)⟩
def dsB (o s : Nat → Int) (i : Nat) : Int := scut .u8 ((dcC o s i + o i + s i).tmod 256)
theorem carry_congr {o o' s s' : Nat → Int} : ∀ i, (∀ j, j < i → o j = o' j ∧ s j = s' j) → carry o s i = carry o' s' i
  | 0, _ => rfl
  | i + 1, h => by
    obtain ⟨h1, h2⟩ := h i (by omega)
    simp only [carry]
    rw [carry_congr i fun j hj => h j (by omega), h1, h2]
theorem dsB_eq {o s : Nat → Int} {n : Nat} (ho : ∀ j, j < n → Byte (o j)) (hs : ∀ j, j < n → Byte (s j)) {i : Nat} (hi : i < n) : dsB o s i = byteN (leN n o 0 + leN n s 0) i := by
  obtain ⟨h1, h2, h3⟩ := dcC_spec ho hs i (by omega)
  have h4 := ho i hi
  have h5 := hs i hi
  let o' : Nat → Int := fun j => if j < n then o j else 0
  let s' : Nat → Int := fun j => if j < n then s j else 0
  have ho' : ∀ j, 0 ≤ o' j := fun j => by show 0 ≤ (if j < n then o j else 0); split; exact (ho j ‹_›).1; exact Int.le_refl _
  have hs' : ∀ j, 0 ≤ s' j := fun j => by show 0 ≤ (if j < n then s j else 0); split; exact (hs j ‹_›).1; exact Int.le_refl _
  have eo : ∀ j, j < n → o j = o' j := fun j hj => (if_pos hj).symm
  have es : ∀ j, j < n → s j = s' j := fun j hj => (if_pos hj).symm
  have hb := carry_byte ho' hs' hi
  have l1 : leN n o 0 = leN n o' 0 := leN_congr n 0 fun j hj => by rw [Nat.zero_add]; exact eo j hj
  have l2 : leN n s 0 = leN n s' 0 := leN_congr n 0 fun j hj => by rw [Nat.zero_add]; exact es j hj
  have hc : carry o s i = carry o' s' i := carry_congr i fun j hj => ⟨eo j (by omega), es j (by omega)⟩
  rw [l1, l2, hb, ← hc, ← eo i hi, ← es i hi, ← h3]
  unfold Byte at h4 h5
  unfold dsB scut
  rw [Int.tmod_eq_emod_of_nonneg (by omega)]
  show (_ % 256) % 256 = _
  omega
end Go.Vx

/- Arguments that are slices of what holds slices of numbers. -/
namespace Go.Vx
open Go.ChangeShapes Go.WideShapes Go.RowKit

/-- kinds of cells: numbers and truth values -/
inductive CY where
  | i (k : IntKind)
  | b
  | s (k : IntKind)
def kindsY (P : Program) : Nat → TypeId → Option (List CY)
  | 0, _ => none
  | d + 1, t =>
    let r : Option (List CY) := match P.underlying t with
      | some (.int k) => some [.i k]
      | some .bool => some [.b]
      | some (.slice e) => match P.underlying e, Nat.beq (P.cellsOf e) 1 with
        | some (.int k), true => some [.s k]
        | _, _ => none
      | some (.array n e) => match kindsY P d e with
        | some l => some (List.replicate n l).flatten
        | none => none
      | some (.struct fs) => match tightFields P fs.toList 0, fs.all (·.name != "_") with
        | some _, true => match fs.toList.mapM fun f => kindsY P d f.type with
          | some ls => some ls.flatten
          | none => none
        | _, _ => none
      | _ => none
    match r with
    | some l => match Nat.beq l.length (P.cellsOf t) with
      | true => some l
      | false => none
    | none => none
theorem kindsY_len {P : Program} {d : Nat} {t : TypeId} {ks : List CY} (h : kindsY P d t = some ks) : ks.length = P.cellsOf t := by
  cases d with
  | zero => simp [kindsY] at h
  | succ d =>
    simp only [kindsY] at h
    split at h
    · split at h
      · rename_i hb
        simp only [Option.some.injEq] at h; subst h
        exact Nat.eq_of_beq_eq_true hb
      · simp at h
    · simp at h

def OkY (W : World) : CY → Option Value → Prop
  | .i k, v => ∃ n, v = some (.int k n) ∧ Fits k n
  | .b, v => ∃ b, v = some (.bool b)
  | .s k, v => ∃ (u : Value) (l : List Int), v = some u ∧ isAggV u = false ∧ l.length ≤ maxLen ∧ DenC W (O0 W) (fun _ => none) (.roi k l) [u]
def FlatY (W : World) (ks : List CY) (cs : List Value) : Prop := cs.length = ks.length ∧ ∀ (i : Nat) (k : CY), ks[i]? = some k → OkY W k cs[i]?
theorem FlatY.append {W : World} {ks ks' : List CY} {cs cs' : List Value} (h : FlatY W ks cs) (h' : FlatY W ks' cs') : FlatY W (ks ++ ks') (cs ++ cs') := by
  refine ⟨by simp [h.1, h'.1], fun i k hk => ?_⟩
  by_cases hi : i < ks.length
  · rw [List.getElem?_append_left hi] at hk
    have := h.2 i k hk
    rwa [List.getElem?_append_left (by rw [h.1]; exact hi)]
  · rw [List.getElem?_append_right (by omega)] at hk
    have := h'.2 _ k hk
    rwa [List.getElem?_append_right (by rw [h.1]; omega), h.1]

section
variable {H : Type} {enc : TypeId × Value → H} {P : Program} {w : World} {base : Nat} {spare : Nat → Bool} {held : Bool}
theorem flat_chunksY {ks : List CY} {cs : List Value} {sz : Nat} (hsz : ks.length = sz) : ∀ (n : Nat), (∀ i, i < n → FlatY w ks ((cs.drop (i * sz)).take sz)) → FlatY w (List.replicate n ks).flatten (cs.take (n * sz))
  | 0, _ => by simp [FlatY]
  | n + 1, h => by
    have h1 := flat_chunksY hsz n fun i hi => h i (by omega)
    have h2 := h n (by omega)
    have e1 : (List.replicate (n + 1) ks).flatten = (List.replicate n ks).flatten ++ ks := by
      rw [List.replicate_succ']; simp
    have e2 : cs.take ((n + 1) * sz) = cs.take (n * sz) ++ (cs.drop (n * sz)).take sz := by
      rw [Nat.succ_mul, List.take_add]
    rw [e1, e2]; exact h1.append h2

theorem trod_ints {t e : TypeId} {k : IntKind} (ht : P.underlying t = some (.slice e)) (he : P.underlying e = some (.int k)) (hc : P.cellsOf e = 1) {fuel : Nat} {cs : List Value} {x : DataW H × List MemPlace} (hf : DataW.trod enc P w base spare held fuel t cs = some x) : FlatY w [.s k] cs := by
  rcases open_ints ht he hc hf with ⟨h1, h2⟩ | ⟨a, len, cap, zs, h1, h2, h3, h4, h5, h6, h7, h8⟩
  · subst h1
    refine ⟨rfl, fun i k' hk' => ?_⟩
    cases i with
    | zero =>
      simp at hk'; subst hk'
      refine ⟨_, [], rfl, rfl, Nat.zero_le _, ?_⟩
      simp only [DenC]
      exact ⟨none, 0, rfl, by simp, by simp, by simp⟩
    | succ i => simp at hk'
  · subst h1
    have hlen : len ≤ zs.length := by rw [h5]; split <;> omega
    have hl2 : (zs.take len).length = len := by simp; omega
    refine ⟨rfl, fun i k' hk' => ?_⟩
    cases i with
    | succ i => simp at hk'
    | zero =>
    simp at hk'; subst hk'
    refine ⟨_, zs.take len, rfl, rfl, by simp; omega, ?_⟩
    simp only [DenC]
    refine ⟨some a, cap, by rw [hl2], by omega, fun hpos => ?_, fun n hn => fits_of_wf (h8 n (List.mem_of_mem_take hn))⟩
    have hspot : a.spot = none := by
      have := h7 0 (by omega)
      exact spot_none this
    obtain ⟨b, o, sp⟩ := a
    simp only at hspot; subst hspot
    refine ⟨b, o, rfl, fun j u hj => ?_⟩
    rw [List.getElem?_map, List.getElem?_take] at hj
    split at hj
    · rename_i hjl
      have := h7 j (by omega)
      have this : w.cell? ((adr b o).add j) = _ := this
      rw [adr_add] at this
      show w.cell? (adr b (o + j)) = some u
      rw [this]
      rw [List.getElem?_eq_getElem (by omega)] at hj
      simp at hj
      rw [← hj, List.getD_eq_getElem?_getD, List.getElem?_eq_getElem (by omega)]; rfl
    · simp at hj

theorem trod_kindsY : ∀ (d : Nat) (t : TypeId) (ks : List CY), kindsY P d t = some ks → ∀ (fuel : Nat) (cs : List Value) (x : DataW H × List MemPlace), DataW.trod enc P w base spare held fuel t cs = some x → FlatY w ks cs
  | 0, t, ks, h, _, _, _, _ => by simp [kindsY] at h
  | d + 1, t, ks, h, 0, _, _, hx => by simp [DataW.trod] at hx
  | d + 1, t, ks, h, fuel + 1, cs, x, hx => by
    simp only [kindsY] at h
    split at h
    · rename_i l hl
      split at h
      · rename_i hlen
        have hlen := Nat.eq_of_beq_eq_true hlen
        simp only [Option.some.injEq] at h; subst h
        split at hl
        · rename_i k hu
          simp only [Option.some.injEq] at hl; subst hl
          simp only [DataW.trod, hu] at hx
          split at hx <;> rename_i e <;> first | (simp at e; done) | skip
          all_goals first | (simp at hx; done) | skip
          simp only [Option.some.injEq, TypeDesc.int.injEq] at e
          subst e
          split at hx
          · rename_i hw
            refine ⟨rfl, fun i k' hk' => ?_⟩
            cases i with
            | zero => simp at hk'; subst hk'; exact ⟨_, by rw [hw.1]; rfl, fits_of_wf hw.2⟩
            | succ i => simp at hk'
          · simp at hx
        · rename_i hu
          simp only [Option.some.injEq] at hl; subst hl
          simp only [DataW.trod, hu] at hx
          split at hx <;> rename_i e <;> first | (simp at e; done) | skip
          all_goals first | (simp at hx; done) | skip
          refine ⟨rfl, fun i k' hk' => ?_⟩
          cases i with
          | zero => simp at hk'; subst hk'; exact ⟨_, rfl⟩
          | succ i => simp at hk'
        · rename_i e hu
          split at hl
          · rename_i k he hc
            simp only [Option.some.injEq] at hl; subst hl
            exact trod_ints hu he (Nat.eq_of_beq_eq_true hc) hx
          · simp at hl
        · rename_i n e hu
          split at hl
          · rename_i l0 hl0
            simp only [Option.some.injEq] at hl; subst hl
            simp only [DataW.trod, hu] at hx
            split at hx
            · rename_i hcs
              cases hm : (List.range n).mapM (fun i => DataW.trod enc P w base spare held fuel e ((cs.drop (i * P.cellsOf e)).take (P.cellsOf e))) with
              | none => simp [hm] at hx
              | some ys =>
                obtain ⟨_, g2⟩ := mapM_got hm
                have each : ∀ i, i < n → FlatY w l0 ((cs.drop (i * P.cellsOf e)).take (P.cellsOf e)) := fun i hi => by
                  obtain ⟨y, _, q⟩ := g2 i i (by simp [hi])
                  exact trod_kindsY d e l0 hl0 fuel _ y q
                by_cases hn : n = 0
                · subst hn
                  simp only [List.replicate_zero, List.flatten_nil, List.length_nil] at hlen ⊢
                  exact ⟨by rw [hcs, ← hlen]; rfl, by simp⟩
                · have hsz := kindsY_len hl0
                  have := flat_chunksY hsz n each
                  have e3 : cs.take (n * P.cellsOf e) = cs := List.take_of_length_le (by rw [hcs, ← hlen, ← hsz]; simp)
                  rwa [e3] at this
            · simp at hx
          · simp at hl
        · rename_i fs hu
          split at hl
          · rename_i n0 hnf ht
            split at hl
            · rename_i ls hls
              simp only [Option.some.injEq] at hl; subst hl
              simp only [DataW.trod, hu] at hx
              split at hx
              · rename_i hcs
                cases hm : fs.toList.mapM (fun f => DataW.trod enc P w base spare held fuel f.type ((cs.drop f.offset).take (P.cellsOf f.type))) with
                | none => simp [hm] at hx
                | some ys =>
                  obtain ⟨_, g2⟩ := mapM_got hm
                  obtain ⟨k1, k2⟩ := mapM_got hls
                  -- field by field
                  have key : ∀ (fl : List Field) (ll : List (List CY)) (n : Nat), tightFields P fl n = some n0 → ll.length = fl.length →
                      (∀ (i : Nat) (f : Field), fl[i]? = some f → ∃ l, ll[i]? = some l ∧ kindsY P d f.type = some l ∧ FlatY w l ((cs.drop f.offset).take (P.cellsOf f.type))) →
                      FlatY w ll.flatten ((cs.drop n).take ll.flatten.length) := by
                    intro fl
                    induction fl with
                    | nil =>
                      intro ll n _ hl _
                      have : ll = [] := by simpa using hl
                      subst this; simp [FlatY]
                    | cons f fl ih =>
                      intro ll n htf hl hf
                      cases ll with
                      | nil => simp at hl
                      | cons l ll =>
                        simp only [tightFields] at htf
                        split at htf
                        · rename_i hoff
                          obtain ⟨l', h1, h2, h3⟩ := hf 0 f (by simp)
                          simp at h1; subst h1
                          rw [hoff] at h3
                          have hlen2 := kindsY_len h2
                          have hr := ih ll (n + P.cellsOf f.type) htf (by simpa using hl) fun i f' hf' => by
                            obtain ⟨l'', q1, q2⟩ := hf (i + 1) f' (by simpa using hf')
                            exact ⟨l'', by simpa using q1, q2⟩
                          have e : (cs.drop n).take (l :: ll).flatten.length = (cs.drop n).take (P.cellsOf f.type) ++ (cs.drop (n + P.cellsOf f.type)).take ll.flatten.length := by
                            rw [List.flatten_cons, List.length_append, hlen2, List.take_add, List.drop_drop]
                          rw [e, List.flatten_cons]
                          exact h3.append hr
                        · simp at htf
                  have := key fs.toList ls 0 hnf k1 fun i f hf => by
                    obtain ⟨y, _, q⟩ := g2 i f hf
                    obtain ⟨l, q1, q2⟩ := k2 i f hf
                    exact ⟨l, q1, q2, trod_kindsY d f.type l q2 fuel _ y q⟩
                  rw [List.drop_zero, List.take_of_length_le (by rw [hcs, hlen]; exact Nat.le_refl _)] at this
                  exact this
              · simp at hx
            · simp at hl
          · simp at hl
        · simp at hl
      · simp at h
    · simp at h


/-- cells of these kinds -/
def svY : List CY → (Nat → Int) → (Nat → List Int) → Nat → List SV
  | [], _, _, _ => []
  | .i k :: ks, a, d, i => .int k (a i) :: svY ks a d (i + 1)
  | .b :: ks, a, d, i => .sbool (decide (a i = 1)) :: svY ks a d (i + 1)
  | .s k :: ks, a, d, i => .roi k (d i) :: svY ks a d (i + 1)
theorem denY {w : World} {ρ : Rho} {a : Nat → Int} {d : Nat → List Int} : ∀ {ks : List CY} {cs : List Value} {i : Nat}, cs.length = ks.length → (∀ (j : Nat) (k : CY), ks[j]? = some k → OkY w k cs[j]?) → (∀ j, a (i + j) = numX cs j) → (∀ j k u, ks[j]? = some (.s k) → cs[j]? = some u → DenC w (O0 w) (fun _ => none) (.roi k (d (i + j))) [u] ∧ isAggV u = false) → DenL w (O0 w) ρ (svY ks a d i) cs
  | [], cs, i, hl, _, _, _ => by simp [svY, DenL]; simpa using hl
  | k :: ks, [], i, hl, _, _, _ => by simp at hl
  | k :: ks, c :: cs, i, hl, h, ha, hs => by
    have h0 := h 0 k (by simp)
    have a0 : a i = numX (c :: cs) 0 := ha 0
    have hr := denY (ρ := ρ) (a := a) (d := d) (ks := ks) (cs := cs) (i := i + 1) (by simpa using hl) (fun j k' hj => by simpa using h (j + 1) k' (by simpa using hj)) (fun j => by
      rw [show i + 1 + j = i + (j + 1) by omega, ha (j + 1)]; simp [numX]) (fun j k' u h1 h2 => by
      rw [show i + 1 + j = i + (j + 1) by omega]; exact hs (j + 1) k' u (by simpa using h1) (by simpa using h2))
    cases k with
    | i k =>
      obtain ⟨n, h1, h2⟩ := h0
      simp at h1; subst h1
      have e : a i = n := by rw [a0]; rfl
      simp only [svY, DenL]
      exact ⟨_, cs, rfl, by simp only [DenC]; rw [e]; exact ⟨rfl, h2⟩, rfl, hr⟩
    | b =>
      obtain ⟨b, h1⟩ := h0
      simp at h1; subst h1
      have e : decide (a i = 1) = b := by rw [a0]; cases b <;> rfl
      simp only [svY, DenL]
      exact ⟨_, cs, rfl, by simp only [DenC]; rw [e], rfl, hr⟩
    | s k =>
      obtain ⟨h1, h2⟩ := hs 0 k c rfl rfl
      simp only [svY, DenL]
      exact ⟨_, cs, rfl, DenC.mono (ext_none ρ) _ _ h1, h2, hr⟩

open Classical in
/-- the numbers of a slice that stands in a cell -/
noncomputable def lsY (w : World) (k : IntKind) (c : Option Value) : List Int :=
  if h : ∃ l, ∃ u, c = some u ∧ isAggV u = false ∧ l.length ≤ maxLen ∧ DenC w (O0 w) (fun _ => none) (.roi k l) [u] then h.choose else []
theorem lsY_spec {w : World} {k : IntKind} {u : Value} (h : OkY w (.s k) (some u)) : DenC w (O0 w) (fun _ => none) (.roi k (lsY w k (some u))) [u] ∧ isAggV u = false := by
  have h' : ∃ l, ∃ v, some u = some v ∧ isAggV v = false ∧ l.length ≤ maxLen ∧ DenC w (O0 w) (fun _ => none) (.roi k l) [v] := by
    obtain ⟨v, l, h1, h2, h3, h4⟩ := h
    exact ⟨l, v, h1, h2, h3, h4⟩
  unfold lsY
  rw [dif_pos h']
  obtain ⟨v, h1, h2, _, h4⟩ := h'.choose_spec
  simp only [Option.some.injEq] at h1; subst h1
  exact ⟨h4, h2⟩
theorem lsY_len (w : World) (k : IntKind) (c : Option Value) : (lsY w k c).length ≤ maxLen := by
  unfold lsY
  split
  · rename_i h
    obtain ⟨v, _, _, h3, _⟩ := h.choose_spec
    exact h3
  · exact Nat.zero_le _
def kindY : List CY → Nat → IntKind
  | [], _ => .u8
  | .s k :: _, 0 => k
  | _ :: _, 0 => .u8
  | _ :: ks, i + 1 => kindY ks i
theorem kindY_get : ∀ {ks : List CY} {j : Nat} {k : IntKind}, ks[j]? = some (.s k) → kindY ks j = k
  | [], _, _, h => by simp at h
  | c :: ks, 0, k, h => by simp at h; subst h; rfl
  | c :: ks, j + 1, k, h => by
    have := kindY_get (ks := ks) (j := j) (k := k) (by simpa using h)
    cases c <;> exact this

theorem open_rowsY0 {W : World} {t e : TypeId} {ks : List CY} {v : Value} {d : DataW H} {ps : List MemPlace} {r : Reach} {b0 : Nat} (ht : P.underlying t = some (.slice e)) (hk : kindsY P 8 e = some ks) (hpos : 0 < ks.length)
    (hval : Value.okWide P W r b0 t v) (hd : DataW.Trod enc P W base spare held t v d ps) (F : List Value → SV) (hF : ∀ cs, FlatY W ks cs → DenC W (O0 W) (fun _ => none) (F cs) cs) (ρ : Rho) :
    ∃ (n : Nat) (g : Nat → List Value), n ≤ maxLen ∧ DenV W (O0 W) ρ (.ro ks.length n fun i => F (g i)) v := by
  obtain ⟨fuel, hf⟩ := hd
  have hv : isAggV v = false := by
    unfold Value.okWide at hval
    rw [ht] at hval
    simp only at hval
    unfold Cell.okWide at hval
    rw [ht] at hval
    simp only at hval
    cases v <;> simp [isAggV]
    all_goals (simp [Cell.ok, ht] at hval)
  rw [not_agg_cells hv] at hf
  rcases DataW.trod_slice ht hf with h0 | ⟨a, len, cap, elems, rest, n, _, h1, _, hb, hl, hm, hlen, hel, hsp, hns⟩
  · have h1 := h0.1
    simp at h1; subst h1
    refine ⟨0, fun _ => [], Nat.zero_le _, den_cell rfl rfl ?_⟩
    simp only [DenC]
    exact ⟨none, 0, rfl, Nat.le_refl _, by simp⟩
  · simp at h1; subst h1
    have hsz := kindsY_len hk
    have each : ∀ i, i < len → ∃ cs, W.cells? base (a.add (i * P.cellsOf e)) (P.cellsOf e) = some cs ∧ FlatY W ks cs := fun i hi => by
      have h2 := hel i hi
      rw [List.getElem?_eq_getElem (by omega)] at h2
      obtain ⟨cs, q1, q2⟩ := Option.bind_eq_some_iff.1 h2
      exact ⟨cs, q1, trod_kindsY 8 e ks hk n cs _ q2⟩
    refine ⟨len, fun i => (W.cells? base (a.add (i * P.cellsOf e)) (P.cellsOf e)).getD [], by omega, den_cell rfl rfl ?_⟩
    simp only [DenC]
    refine ⟨some a, cap, rfl, hl, fun hpos2 => ?_⟩
    have hspot : a.spot = none := by
      obtain ⟨cs, q1, q2⟩ := each 0 hpos2
      obtain ⟨g1, g2⟩ := cells_mem q1
      have hc0 : 0 < cs.length := by rw [g1, ← hsz]; exact hpos
      have := g2 0 _ (List.getElem?_eq_getElem hc0)
      rw [Nat.zero_mul] at this
      have e0 : a.add 0 = a := by simp [Addr.add]
      rw [e0] at this
      exact spot_none this
    obtain ⟨b, o, sp⟩ := a
    simp only at hspot; subst hspot
    refine ⟨b, o, rfl, fun i hi => ?_⟩
    obtain ⟨cs, q1, q2⟩ := each i hi
    obtain ⟨g1, g2⟩ := cells_mem q1
    refine ⟨cs, by rw [g1, hsz], fun j u hj => ?_, ?_⟩
    · have := g2 j u hj
      have e1 : (Addr.add ⟨b, o, none⟩ (i * P.cellsOf e)) = adr b (o + i * P.cellsOf e) := adr_add b o _
      rw [e1, adr_add] at this
      show W.cell? (adr b (o + i * ks.length + j)) = some u
      rw [hsz]; exact this
    · have : (W.cells? base (Addr.add ⟨b, o, none⟩ (i * P.cellsOf e)) (P.cellsOf e)).getD [] = cs := by rw [q1]; rfl
      rw [this]
      exact hF cs q2
/-- a slice of structs that hold slices of numbers -/
theorem open_rowsY {W : World} {t e : TypeId} {ks : List CY} {v : Value} {d : DataW H} {ps : List MemPlace} {r : Reach} {b0 : Nat} (ht : P.underlying t = some (.slice e)) (hk : kindsY P 8 e = some ks) (hpos : 0 < ks.length)
    (hval : Value.okWide P W r b0 t v) (hd : DataW.Trod enc P W base spare held t v d ps) (ρ : Rho) :
    ∃ (n : Nat) (a : Nat → Nat → Int) (d : Nat → Nat → List Int), n ≤ maxLen ∧ (∀ i j, (d i j).length ≤ maxLen) ∧ DenV W (O0 W) ρ (.ro ks.length n fun i => .agg (svY ks (a i) (d i) 0)) v := by
  obtain ⟨n, g, h1, h2⟩ := open_rowsY0 ht hk hpos hval hd (fun cs => .agg (svY ks (numX cs) (fun j => lsY W (kindY ks j) cs[j]?) 0)) (fun cs h => by
    simp only [DenC]
    refine denY h.1 h.2 (fun j => by rw [Nat.zero_add]) fun j k u hj hu => ?_
    rw [Nat.zero_add, kindY_get hj, hu]
    have := h.2 j _ hj
    rw [hu] at this
    exact lsY_spec this) ρ
  exact ⟨n, _, _, h1, fun i j => lsY_len _ _ _, h2⟩
/-- a slice of slices of numbers -/
theorem open_lists {W : World} {t e : TypeId} {k : IntKind} {v : Value} {d : DataW H} {ps : List MemPlace} {r : Reach} {b0 : Nat} (ht : P.underlying t = some (.slice e)) (hk : kindsY P 8 e = some [.s k])
    (hval : Value.okWide P W r b0 t v) (hd : DataW.Trod enc P W base spare held t v d ps) (ρ : Rho) :
    ∃ (n : Nat) (d : Nat → List Int), n ≤ maxLen ∧ (∀ i, (d i).length ≤ maxLen) ∧ DenV W (O0 W) ρ (.ro 1 n fun i => .roi k (d i)) v := by
  obtain ⟨n, g, h1, h2⟩ := open_rowsY0 ht hk (by simp) hval hd (fun cs => .roi k (lsY W k cs[0]?)) (fun cs h => by
    match cs, h with
    | [u], h => exact (lsY_spec (h.2 0 (.s k) rfl)).1
    | [], h => exact absurd h.1 (by simp)
    | _ :: _ :: _, h => exact absurd h.1 (by simp)) ρ
  exact ⟨n, _, h1, fun i => lsY_len _ _ _, h2⟩
end
end Go.Vx

namespace Go.Vx
/- A chunk of number cells, told of as a list of numbers from here on. -/
theorem SimC.asInts {P : Program} {w0 : World} {O : Own} {nT m : Nat} {c : Code} {e : Ex} {S S' : List (Nat × SV)} {B B' : List Body} {i n : Nat} {k : IntKind} {cs : List SV} {ns : List Int} (hB : B[i]? = some (.cells cs)) (hn : numsAs (List.replicate n k) cs = some ns)
    (h : SimC P w0 O nT c S (B.set i (.ints k ns)) e S' B' m) : SimC P w0 O nT c S B e S' B' m := by
  have hi : i < B.length := (List.getElem?_eq_some_iff.1 hB).1
  intro ρ Φ a w r hr
  obtain ⟨hd, r1, r2⟩ := r.heap.holds i _ hB
  cases hd with
  | sl a b c => exact r2.elim
  | «at» b base =>
    have x1 := r.heap.swap (i := i) (bd' := .ints k ns) hB fun hd hh hq => by
      rw [r1] at hh; cases hh
      exact holds_asInts hn hq
    have x1 := relH_funext (H' := BH (B.set i (.ints k ns))) (fun j => by
      unfold upH BH
      by_cases e : j = i
      · subst e; simp [hi]
      · rw [if_neg e, List.getElem?_set_ne (Ne.symm e)]) x1
    exact h ρ Φ a w ⟨r.size, r.defers, r.tmps, x1⟩ (fun j hj => hr j (by simpa using hj))
end Go.Vx

/- Memory that was written and is written no more: it stands from then on as if it had been given. A law's text is walked in pieces, each over a world of its own. -/
namespace Go.Vx
open Go

section
variable {w0 w1 : World} {O O1 : Own} {ρ ρ1 : Rho}
mutual
theorem denC_sub (hO : ∀ b o v, O.mem b o v → O1.mem b o v) : ∀ (ρ : Rho) (c : SV) (vs : List Value), DenC w0 O ρ c vs → DenC w1 O1 ρ c vs
  | _, .any, _, _ => by simp [DenC]
  | _, .bool _, _, x => by simpa [DenC] using x
  | _, .sbool _, _, x => by simpa [DenC] using x
  | _, .lit _ _, _, x => by simpa [DenC] using x
  | _, .int _ _, _, x => by simpa [DenC] using x
  | _, .raw _, _, x => by simpa [DenC] using x
  | _, .ptr id off, _, x => by simpa only [DenC] using x
  | _, .sptr .., _, x => by simpa only [DenC] using x
  | _, .sl .., _, x => by simpa only [DenC] using x
  | _, .own id, _, x => by simpa only [DenC] using x
  | _, .ro sz n f, _, x => by
    simp only [DenC] at x ⊢
    obtain ⟨a, cap, h1, h2, h3⟩ := x
    refine ⟨a, cap, h1, h2, fun hn => ?_⟩
    obtain ⟨b, o, g1, g2⟩ := h3 hn
    refine ⟨b, o, g1, fun i hi => ?_⟩
    obtain ⟨us, u1, u2, u3⟩ := g2 i hi
    exact ⟨us, u1, fun j v hj => hO _ _ _ (u2 j v hj), denC_sub hO _ (f i) us u3⟩
  | _, .roi k l, _, x => by
    simp only [DenC] at x ⊢
    obtain ⟨a, cap, h1, h2, h3, h4⟩ := x
    refine ⟨a, cap, h1, h2, fun hn => ?_, h4⟩
    obtain ⟨b, o, g1, g2⟩ := h3 hn
    exact ⟨b, o, g1, fun j v hj => hO _ _ _ (g2 j v hj)⟩
  | _, .rob q k l, _, x => by
    simp only [DenC] at x ⊢
    obtain ⟨a, cap, h1, h2, h3, h4⟩ := x
    refine ⟨a, cap, h1, h2, fun hn => ?_, h4⟩
    obtain ⟨b, o, g1, g0, g2⟩ := h3 hn
    exact ⟨b, o, g1, g0, fun j v hj => hO _ _ _ (g2 j v hj)⟩
  | _, .rop v, _, x => by
    simp only [DenC] at x ⊢
    obtain ⟨b, o, us, h1, h2, h3⟩ := x
    exact ⟨b, o, us, h1, fun j v hj => hO _ _ _ (h2 j v hj), denC_sub hO _ v us h3⟩
  | ρ, .agg cs, vs, x => by
    simp only [DenC] at x ⊢
    exact denL_sub hO ρ cs vs x
  | ρ, .tuple ws, _, x => by
    simp only [DenC] at x ⊢
    obtain ⟨arr, h1, h2⟩ := x
    exact ⟨arr, h1, denT_sub hO ρ ws _ h2⟩
  | ρ, .func g first cap, _, x => by
    simp only [DenC] at x ⊢
    obtain ⟨a, c, h1, h2, h3⟩ := x
    exact ⟨a, c, h1, denT_sub hO ρ first _ h2, denT_sub hO ρ cap _ h3⟩
theorem denL_sub (hO : ∀ b o v, O.mem b o v → O1.mem b o v) : ∀ (ρ : Rho) (cs : List SV) (vs : List Value), DenL w0 O ρ cs vs → DenL w1 O1 ρ cs vs
  | _, [], _, x => by simpa [DenL] using x
  | ρ, c :: cs, vs, x => by
    simp only [DenL] at x ⊢
    obtain ⟨v, r, h1, h2, h3, h4⟩ := x
    exact ⟨v, r, h1, denC_sub hO ρ c _ h2, h3, denL_sub hO ρ cs r h4⟩
theorem denT_sub (hO : ∀ b o v, O.mem b o v → O1.mem b o v) : ∀ (ρ : Rho) (cs : List SV) (vs : List Value), DenT w0 O ρ cs vs → DenT w1 O1 ρ cs vs
  | _, [], _, x => by simpa [DenT] using x
  | ρ, c :: cs, vs, x => by
    simp only [DenT] at x ⊢
    obtain ⟨v, r, h1, h2, h4⟩ := x
    exact ⟨v, r, h1, h2.imp id (fun y => ⟨y.1, denC_sub hO ρ c _ y.2⟩), denT_sub hO ρ cs r h4⟩
end


theorem denV_sub (hO : ∀ b o v, O.mem b o v → O1.mem b o v) {c : SV} {v : Value} (h : DenV w0 O ρ c v) : DenV w1 O1 ρ c v :=
  h.imp id fun y => ⟨y.1, denC_sub hO ρ c _ y.2⟩
theorem glob_sub {g : Ctx} (hO : ∀ b o v, O.mem b o v → O1.mem b o v) (h : GlobOk g w0 O) : GlobOk g w1 O1 := fun n v hn => by
  obtain ⟨us, h1, h2⟩ := h n v hn
  exact ⟨us, fun j v hj => hO _ _ _ (h1 j v hj), denC_sub hO _ _ _ h2⟩

variable {w : World}
theorem cellsAt_all (h : ∀ c vs, DenC w0 O ρ c vs → DenC w1 O1 ρ1 c vs) {b base : Nat} {cs : List SV} (x : CellsAt w0 O ρ w b base cs) : CellsAt w1 O1 ρ1 w b base cs := fun j c hc =>
  let ⟨v, g1, g2, g3⟩ := x j c hc
  ⟨v, g1, h _ _ g2, g3⟩
theorem ownAt_all (h : ∀ c vs, DenC w0 O ρ c vs → DenC w1 O1 ρ1 c vs) {bd : Body} {loc : Option (Nat × Nat)} {len cap : Nat} {F : Foot} (x : OwnAt w0 O ρ w bd loc len cap F) : OwnAt w1 O1 ρ1 w bd loc len cap F := by
  obtain ⟨h1, h2, h3, h4⟩ := x
  refine ⟨h1, h2, h3, ?_⟩
  cases loc with
  | none => exact h4
  | some y => exact ⟨h4.1, cellsAt_all h h4.2.1, h4.2.2⟩
theorem holds_all (h : ∀ c vs, DenC w0 O ρ c vs → DenC w1 O1 ρ1 c vs) {bd : Body} {hd : Hd} {F : Foot} (x : Holds w0 O ρ w bd hd F) : Holds w1 O1 ρ1 w bd hd F := by
  cases bd with
  | log l =>
    cases hd with
    | sl a b c => exact x
    | «at» b base =>
      obtain ⟨loc, len, cap, F1, h1, h2, h3, h4, h5, h6, h7⟩ := x
      exact ⟨loc, len, cap, F1, h1, h2, h3, h4, h5, ownAt_all h h6, h7⟩
  | cells cs =>
    cases hd with
    | «at» b base => exact ⟨x.1, x.2.1, cellsAt_all h x.2.2⟩
    | sl a b c => exact x.elim
  | ints k l =>
    cases hd with
    | «at» b base => exact ⟨x.1, x.2.1, cellsAt_all h x.2.2⟩
    | sl a b c => exact ownAt_all h x
  | lists q k l =>
    cases hd with
    | «at» b base => exact ⟨x.1, x.2.1, cellsAt_all h x.2.2⟩
    | sl a b c => exact ownAt_all h x
  | rows ks l =>
    cases hd with
    | «at» b base => exact ⟨x.1, x.2.1, cellsAt_all h x.2.2⟩
    | sl a b c => exact ownAt_all h x
end

/-- a world that stands behind another one: what stood there stands, and what it keeps is kept -/
structure Grow (W : World) (OW : Own) (w0 : World) (O : Own) : Prop where
  mem : ∀ b o v, OW.mem b o v → O.mem b o v
  back : ∀ w', Frame w0 O w' → Frame W OW w'
  newer : ∀ b o v, O.mem b o v → OW.mem b o v ∨ W.heap.size ≤ b ∨ OW.own b o
  own : ∀ b o, b < W.heap.size → O.own b o → OW.own b o
  size : W.heap.size ≤ w0.heap.size
theorem Grow.refl (W : World) (OW : Own) : Grow W OW W OW := ⟨fun _ _ _ h => h, fun _ h => h, fun _ _ _ h => .inl h, fun _ _ _ h => h, Nat.le_refl _⟩
theorem Grow.trans {W w0 w1 : World} {OW O O1 : Own} (h : Grow W OW w0 O) (h' : Grow w0 O w1 O1) : Grow W OW w1 O1 :=
  ⟨fun b o v x => h'.mem _ _ _ (h.mem _ _ _ x), fun w' x => h.back _ (h'.back _ x), fun b o v x => by
    rcases h'.newer b o v x with y | y | y
    · exact h.newer b o v y
    · exact .inr (.inl (Nat.le_trans h.size y))
    · rcases Nat.lt_or_ge b W.heap.size with z | z
      · exact .inr (.inr (h.own b o z y))
      · exact .inr (.inl z), fun b o x y => h.own b o x (h'.own b o (Nat.lt_of_lt_of_le x h.size) y), Nat.le_trans h.size h'.size⟩

def reO (M : Nat → Nat → Value → Prop) (H' : Nat → Option Body) (Φ : Nat → Foot) : Own := ⟨fun b o => ∃ id, H' id ≠ none ∧ Φ id b o, M⟩

section
variable {w0 w : World} {O : Own} {ρ : Rho} {H : Nat → Option Body} {Φ : Nat → Foot}
theorem RelH.rebase (x : RelH w0 O ρ H w Φ) {M : Nat → Nat → Value → Prop} {H' : Nat → Option Body} (hH : ∀ id bd, H' id = some bd → H id = some bd) (hM : ∀ b o v, M b o v → w.cell? (adr b o) = some v) (hMO : ∀ b o v, O.mem b o v → M b o v)
    (hnew : ∀ b o v, M b o v → O.mem b o v ∨ w0.heap.size ≤ b ∨ O.own b o) (hdis : ∀ id b o v, H' id ≠ none → Φ id b o → M b o v → False) : RelH w (reO M H' Φ) ρ H' w Φ ∧ Grow w0 O w (reO M H' Φ) := by
  have hn : ∀ id, H' id ≠ none → H id ≠ none := fun id h e => by
    cases hb : H' id with
    | none => exact h hb
    | some bd => rw [hH id bd hb] at e; simp at e
  refine ⟨⟨Frame.refl w _ (fun b o _ ⟨id, h1, h2⟩ => x.quiet (hn id h1) h2) fun b o v h => ⟨hM b o v h, fun ⟨id, h1, h2⟩ => hdis id b o v h1 h2 h⟩, fun id bd hb => ?_, fun id id' b o hne h1 h2 => x.disj id id' b o hne (hn _ h1) (hn _ h2), fun id b o h1 h2 => ⟨(x.mine id b o (hn _ h1) h2).1, fun _ => ⟨id, h1, h2⟩⟩⟩, ?_⟩
  · obtain ⟨hd, q1, q2⟩ := x.holds id bd (hH id bd hb)
    exact ⟨hd, q1, holds_all (fun c vs h => denC_sub (fun b o v h => hMO b o v h) ρ c vs h) q2⟩
  · exact ⟨hMO, fun w' h => x.frame.comp h fun b o hb ⟨id, h1, h2⟩ => (x.mine id b o (hn _ h1) h2).2 hb, hnew, fun b o hb ⟨id, h1, h2⟩ => (x.mine id b o (hn _ h1) h2).2 hb, x.frame.size⟩

theorem RelH.memCell (x : RelH w0 O ρ H w Φ) {b o : Nat} {v : Value} (h : O.mem b o v) : w.cell? (adr b o) = some v := x.frame.cell (x.frame.mem _ _ _ h).1 (x.frame.mem _ _ _ h).2
theorem RelH.memFar (x : RelH w0 O ρ H w Φ) {id b o : Nat} {v : Value} (hn : H id ≠ none) (h1 : Φ id b o) (h : O.mem b o v) : False :=
  (x.frame.mem _ _ _ h).2 ((x.mine id b o hn h1).2 (World.block_lt_of_cell? w0 (adr b o) (x.frame.mem _ _ _ h).1))

/-- a chunk is given up: what it holds stands from now on -/
theorem RelH.freeze (x : RelH w0 O ρ H w Φ) {id : Nat} (hid : H id ≠ none) : ∃ O1, RelH w O1 ρ (upH H id none) w Φ ∧ Grow w0 O w O1 ∧ ∀ b o v, Φ id b o → w.cell? (adr b o) = some v → O1.mem b o v := by
  have hne : ∀ i, upH H id none i ≠ none → i ≠ id ∧ H i ≠ none := fun i hi => by
    unfold upH at hi
    by_cases e : i = id
    · rw [if_pos e] at hi; exact absurd rfl hi
    · rw [if_neg e] at hi; exact ⟨e, hi⟩
  refine ⟨reO (fun b o v => O.mem b o v ∨ (Φ id b o ∧ w.cell? (adr b o) = some v)) (upH H id none) Φ, ?_⟩
  obtain ⟨q1, q2⟩ := x.rebase (M := fun b o v => O.mem b o v ∨ (Φ id b o ∧ w.cell? (adr b o) = some v)) (H' := upH H id none) (fun i bd hb => by
    have h := hne i (by rw [hb]; simp)
    unfold upH at hb
    rwa [if_neg h.1] at hb) (fun b o v h => by
    rcases h with h | h
    · exact x.memCell h
    · exact h.2) (fun b o v h => .inl h) (fun b o v h => by
    rcases h with h | h
    · exact .inl h
    · rcases Nat.lt_or_ge b w0.heap.size with e | e
      · exact .inr (.inr ((x.mine id b o hid h.1).2 e))
      · exact .inr (.inl e)) (fun i b o v hi h1 h => by
    obtain ⟨g1, g2⟩ := hne i hi
    rcases h with h | h
    · exact x.memFar g2 h1 h
    · exact x.disj i id b o g1 g2 hid h1 h.1)
  exact ⟨q1, q2, fun b o v h1 h2 => .inr ⟨h1, h2⟩⟩

variable {O1 : Own} {id : Nat} {ρ1 : Rho} {k : IntKind}
theorem frozen_own {l : List Int} (x : RelH w0 O ρ H w Φ) (hb : H id = some (.ints k l)) (hm : ∀ b o v, Φ id b o → w.cell? (adr b o) = some v → O1.mem b o v) {v : Value} (hv : DenV w0 O ρ (.own id) v) : DenV w O1 ρ1 (.roi k l) v := by
  obtain ⟨loc, len, cap, e1, rfl⟩ := own_den hv
  obtain ⟨_, g1, g2, g3, g4⟩ := own_at x hb e1
  simp only [ecount] at g1; subst g1
  obtain ⟨hd, hr, hh⟩ := x.holds id _ hb
  have hf : ∀ n ∈ l, Fits k n := holds_facts hh
  refine den_cell rfl rfl ?_
  simp only [DenC]
  refine ⟨_, cap, rfl, g2, fun hl => ?_, hf⟩
  cases loc with
  | none => simp only at g4; omega
  | some p =>
    refine ⟨p.1, p.2, rfl, fun j u hu => ?_⟩
    simp only at g4
    obtain ⟨h1, h2, _⟩ := g4
    rw [List.getElem?_map] at hu
    cases hj : l[j]? with
    | none => simp [hj] at hu
    | some n =>
      simp [hj] at hu; subst hu
      have hjl := (List.getElem?_eq_some_iff.1 hj).1
      obtain ⟨v, c1, c2, _⟩ := h2 j (.int k n) (by simp [cellsOf, hj])
      simp only [DenC] at c2
      obtain ⟨c2, _⟩ := c2
      simp at c2; subst c2
      exact hm _ _ _ ((h1 _ _).2 ⟨rfl, by omega, by simp only [esz]; omega⟩) c1

theorem frozen_sl {l : List Int} (x : RelH w0 O ρ H w Φ) (hb : H id = some (.ints k l)) (hm : ∀ b o v, Φ id b o → w.cell? (adr b o) = some v → O1.mem b o v) {m off j len : Nat} {kn : Bool} (hl : off + j + len ≤ l.length) {v : Value} (hv : DenV w0 O ρ (.sl id m off 1 j len kn) v) :
    DenV w O1 ρ1 (.roi k ((l.drop (off + j)).take len)) v := by
  obtain ⟨a, cap, rfl, g2, g3⟩ := sl_den hv
  obtain ⟨hd, hr, hh⟩ := x.holds id _ hb
  have hf : ∀ n ∈ l, Fits k n := holds_facts hh
  have hlen : ((l.drop (off + j)).take len).length = len := by rw [List.length_take, List.length_drop]; omega
  refine den_cell rfl rfl ?_
  simp only [DenC]
  rw [hlen]
  refine ⟨_, cap, rfl, g2, fun h0 => ?_, fun n hn => hf n (List.mem_of_mem_drop (List.mem_of_mem_take hn))⟩
  obtain ⟨hd', b, base, e1, e2, rfl⟩ := g3 h0
  rw [e1] at hr; cases hr
  obtain ⟨_, hc, hF⟩ := hh.cells (by intro l; simp) e2
  refine ⟨b, _, rfl, fun i u hu => ?_⟩
  rw [List.getElem?_map] at hu
  cases hj : ((l.drop (off + j)).take len)[i]? with
  | none => simp [hj] at hu
  | some n =>
    simp [hj] at hu; subst hu
    rw [List.getElem?_take] at hj
    split at hj
    · rw [List.getElem?_drop] at hj
      have hjl := (List.getElem?_eq_some_iff.1 hj).1
      obtain ⟨v, c1, c2, _⟩ := hc (off + j + i) (.int k n) (by simp [cellsOf, hj])
      simp only [DenC] at c2
      obtain ⟨c2, _⟩ := c2
      simp at c2; subst c2
      have e : base + (off * 1 + j) + i = base + (off + j + i) := by omega
      rw [e]
      exact hm _ _ _ (hF (off + j + i) (by simp [cellsOf]; omega)) c1
    · simp at hj

theorem frozen_slN {q : Nat} {l : List Int} (x : RelH w0 O ρ H w Φ) (hb : H id = some (.ints k l)) (hm : ∀ b o v, Φ id b o → w.cell? (adr b o) = some v → O1.mem b o v) {m off j len : Nat} {kn : Bool} (hq : ∀ b o, Φ id b o → q ≤ b) (hl : off + j + len ≤ l.length) {v : Value} (hv : DenV w0 O ρ (.sl id m off 1 j len kn) v) :
    DenV w O1 ρ1 (.rob q k ((l.drop (off + j)).take len)) v := by
  obtain ⟨a, cap, rfl, g2, g3⟩ := sl_den hv
  obtain ⟨hd, hr, hh⟩ := x.holds id _ hb
  have hf : ∀ n ∈ l, Fits k n := holds_facts hh
  have hlen : ((l.drop (off + j)).take len).length = len := by rw [List.length_take, List.length_drop]; omega
  refine den_cell rfl rfl ?_
  simp only [DenC]
  rw [hlen]
  refine ⟨_, cap, rfl, g2, fun h0 => ?_, fun n hn => hf n (List.mem_of_mem_drop (List.mem_of_mem_take hn))⟩
  obtain ⟨hd', b, base, e1, e2, rfl⟩ := g3 h0
  rw [e1] at hr; cases hr
  obtain ⟨_, hc, hF⟩ := hh.cells (by intro l; simp) e2
  have hj0 : off + j < l.length := by omega
  refine ⟨b, _, rfl, hq b (base + (off + j)) (hF (off + j) (by simp [cellsOf]; omega)), fun i u hu => ?_⟩
  rw [List.getElem?_map] at hu
  cases hj : ((l.drop (off + j)).take len)[i]? with
  | none => simp [hj] at hu
  | some n =>
    simp [hj] at hu; subst hu
    rw [List.getElem?_take] at hj
    split at hj
    · rw [List.getElem?_drop] at hj
      have hjl := (List.getElem?_eq_some_iff.1 hj).1
      obtain ⟨v, c1, c2, _⟩ := hc (off + j + i) (.int k n) (by simp [cellsOf, hj])
      simp only [DenC] at c2
      obtain ⟨c2, _⟩ := c2
      simp at c2; subst c2
      have e : base + (off * 1 + j) + i = base + (off + j + i) := by omega
      rw [e]
      exact hm _ _ _ (hF (off + j + i) (by simp [cellsOf]; omega)) c1
    · simp at hj

def listsF (q : Nat) (k : IntKind) (ls : List (List Int)) : Nat → SV := fun i => .rob q k (ls.getD i [])
theorem frozen_lists {q : Nat} {ls : List (List Int)} (x : RelH w0 O ρ H w Φ) (hb : H id = some (.lists q k ls)) (hm : ∀ b o v, Φ id b o → w.cell? (adr b o) = some v → O1.mem b o v) (hO : ∀ b o v, O.mem b o v → O1.mem b o v) {v : Value} (hv : DenV w0 O ρ (.own id) v) :
    DenV w O1 ρ1 (.ro 1 ls.length (listsF q k ls)) v := by
  obtain ⟨loc, len, cap, e1, rfl⟩ := own_den hv
  obtain ⟨_, g1, g2, g3, g4⟩ := own_at x hb e1
  simp only [ecount] at g1; subst g1
  refine den_cell rfl rfl ?_
  simp only [DenC]
  refine ⟨_, cap, rfl, g2, fun hl => ?_⟩
  cases loc with
  | none => simp only at g4; omega
  | some p =>
    simp only at g4
    obtain ⟨h1, h2, _⟩ := g4
    refine ⟨p.1, p.2, rfl, fun i hi => ?_⟩
    obtain ⟨v, c1, c2, _⟩ := h2 i (.rob q k (ls.getD i [])) (by simp [cellsOf, List.getD, hi])
    refine ⟨[v], rfl, fun j u hu => ?_, ?_⟩
    · match j, hu with
      | 0, hu =>
        simp at hu; subst hu
        have e : p.2 + i * 1 + 0 = p.2 + i := by omega
        rw [e]
        exact hm _ _ _ ((h1 _ _).2 ⟨rfl, by omega, by simp only [esz]; omega⟩) c1
    · have := denC_sub (w1 := w) hO ρ _ _ c2
      simp only [listsF, DenC] at this ⊢
      exact this
end

/-! ### a law's text in pieces -/
def StG (g : Ctx) (W : World) (OW : Own) (nT : Nat) (S : List (Nat × SV)) (B : List Body) (a : Act) (w : World) : Prop :=
  ∃ w0 O ρ Φ, GlobOk g w0 O ∧ Grow W OW w0 O ∧ RelA nT w0 O ρ (tget (mkT S)) (BH B) Φ a w ∧ ∀ j, B.length ≤ j → ρ j = none

section
variable {g : Ctx} {W : World} {OW : Own} {nT : Nat} {a : Act} {w : World} {S : List (Nat × SV)} {B : List Body}

theorem StG.of {c : Code} {e : Ex} {S' : List (Nat × SV)} {B' : List Body} {m : Nat} (h : ∀ w0 O, GlobOk g w0 O → SimC g.P w0 O nT c S B e S' B' m) (x : StG g W OW nT S B a w) {Q : Exit → Act → World → Prop} (hQ : ∀ a' w', StG g W OW nT S' B' a' w' → Q e.up a' w') : wpL g.P c Q a w := by
  obtain ⟨w0, O, ρ, Φ, hG, hgr, r, hr⟩ := x
  exact wpL_mono (h w0 O hG ρ Φ a w r hr) fun e' a' w' ⟨he, ρ', Φ', _, q2, q3⟩ => by
    subst he
    exact hQ a' w' ⟨w0, O, ρ', Φ', hG, hgr, q3, q2⟩

theorem StG.run {n : Nat} {pl : List Plan} {c : Code} {B' : List Body} {keep ids : List Nat} {e : Ex} {vals : List SV} {C : List Prop} (x : StG g W OW nT S B a w) (hU : CtxU g) (hn : nT < 65535)
    (h : runC g n nT pl c S B keep ids = some (e, vals, B'.map some, C)) (hC : AllC C) (hnd : ids.Nodup) (hk : ∀ k ∈ keep, k < 65535) (hB : B.length < 65535) {Q : Exit → Act → World → Prop} (hQ : ∀ a' w', StG g W OW nT (keep.zip vals) B' a' w' → Q e.up a' w') : c.wp g.P Q a w :=
  wpL_wp (StG.of (fun w0 O hG => SimC.run (m := 0) hU hn h hC hnd (fun j hj => by omega) hk hB hG) x hQ)

theorem StG.pre {S1 : List (Nat × SV)} (x : StG g W OW nT S B a w) (hi : ∀ t, DenImp (tget (mkT S) t) (tget (mkT S1) t)) : StG g W OW nT S1 B a w := by
  obtain ⟨w0, O, ρ, Φ, hG, hgr, r, hr⟩ := x
  exact ⟨w0, O, ρ, Φ, hG, hgr, ⟨r.size, r.defers, fun t => hi t _ _ _ _ (r.tmps t), r.heap⟩, hr⟩

theorem StG.preI {B1 : List Body} (x : StG g W OW nT S B a w) (hi : BImpL B B1) : StG g W OW nT S B1 a w := by
  obtain ⟨w0, O, ρ, Φ, hG, hgr, r, hr⟩ := x
  exact ⟨w0, O, ρ, Φ, hG, hgr, ⟨r.size, r.defers, r.tmps, relH_imp hi r.heap⟩, by rw [← hi.get.1]; exact hr⟩

theorem StG.adopt (x : StG g W OW nT S B a w) (bd : Body) (t : Nat) (hb : emptyB bd) (ht : tget (mkT S) t = .raw (.slice none 0 0)) (hk : ∀ y ∈ S, y.1 < 65535) (hm : t ∈ S.map (·.1)) : StG g W OW nT (setS S t (.own B.length)) (B ++ [bd]) a w := by
  obtain ⟨w0, O, ρ, Φ, hG, hgr, r, hr⟩ := x
  have hn := hr B.length (Nat.le_refl _)
  have x := relH_funext (fun j => (BH_append B bd j).symm) (r.heap.adopt hn hb)
  refine ⟨w0, O, upR ρ B.length (.sl none 0 0), _, hG, hgr, ⟨r.size, r.defers, fun t' => ?_, x⟩, fun j hj => ?_⟩
  · rw [tget_setS hk, if_pos hm]
    split
    · rename_i e; subst e
      have := r.tmps t'
      rw [ht] at this
      exact den_nil this
    · exact DenV.mono (Ext.up hn _) (r.tmps t')
  · simp at hj
    simp [upR, show j ≠ B.length by omega]; exact hr j (by omega)

theorem zip_rel {R : SV → SV → Prop} (h0 : R .any .any) : ∀ (keep : List Nat) (vals vals' : List SV), (∀ t ∈ keep, t < 65535) → vals.length = vals'.length → (∀ (i : Nat) (c c' : SV), vals[i]? = some c → vals'[i]? = some c' → R c c') → ∀ t, R (tget (mkT (keep.zip vals)) t) (tget (mkT (keep.zip vals')) t)
  | [], _, _, _, _, _, t => by simpa [mkT, tget, Tr.get_lf] using h0
  | k :: keep, [], vals', _, hl, _, t => by
    have : vals' = [] := List.eq_nil_of_length_eq_zero (by simpa using hl.symm)
    subst this
    simpa [mkT, tget, Tr.get_lf] using h0
  | k :: keep, v :: vals, [], _, hl, _, t => by simp at hl
  | k :: keep, v :: vals, v' :: vals', hk, hl, h, t => by
    have e1 : tget (mkT ((k :: keep).zip (v :: vals))) t = if t = k then v else tget (mkT (keep.zip vals)) t := Tr.get_set _ _ _ _ _ (hk k (by simp))
    have e2 : tget (mkT ((k :: keep).zip (v' :: vals'))) t = if t = k then v' else tget (mkT (keep.zip vals')) t := Tr.get_set _ _ _ _ _ (hk k (by simp))
    rw [e1, e2]
    split
    · exact h 0 v v' rfl rfl
    · exact zip_rel h0 keep vals vals' (fun y hy => hk y (by simp [hy])) (by simpa using hl) (fun i c c' h1 h2 => h (i + 1) c c' (by simpa using h1) (by simpa using h2)) t

theorem upto_nodup : ∀ n, (upto n).Nodup
  | 0 => List.nodup_nil
  | n + 1 => by
    refine List.nodup_append.2 ⟨upto_nodup n, by simp, fun x hx y hy => ?_⟩
    obtain ⟨j, hj⟩ := List.getElem?_of_mem hx
    rw [upto_get] at hj
    split at hj
    · simp at hj hy; omega
    · simp at hj
/-- the last chunk is given up -/
theorem StG.freeze {bd : Body} {keep : List Nat} {vals vals' : List SV} (x : StG g W OW nT (keep.zip vals) (B ++ [bd]) a w) (hB : B.map (mapB (idx (upto B.length))) = B) (hk : ∀ t ∈ keep, t < 65535) (hl : vals.length = vals'.length)
    (hv : ∀ (i : Nat) (c c' : SV), vals[i]? = some c → vals'[i]? = some c' → c' = mapC (idx (upto B.length)) c ∨
      ∀ w0 O ρ H w Φ O1, RelH w0 O ρ H w Φ → H B.length = some bd → (∀ b o v, O.mem b o v → O1.mem b o v) → (∀ b o v, Φ B.length b o → w.cell? (adr b o) = some v → O1.mem b o v) → (∀ b o, Φ B.length b o → b < W.heap.size → OW.own b o) → ∀ v ρ1, DenV w0 O ρ c v → DenV w O1 ρ1 c' v) :
    StG g W OW nT (keep.zip vals') B a w := by
  obtain ⟨w0, O, ρ, Φ, hG, hgr, r, hr⟩ := x
  have hid : BH (B ++ [bd]) B.length = some bd := by simp [BH]
  obtain ⟨O1, q1, q2, q3⟩ := r.heap.freeze (id := B.length) (by rw [hid]; simp)
  have hnd := upto_nodup B.length
  have q4 := relH_ren q1 hnd
  refine ⟨w, O1, inR ρ (upto B.length), inF Φ (upto B.length), glob_sub q2.mem hG, hgr.trans q2, ⟨r.size, r.defers, fun t => ?_, relH_funext (fun j => ?_) q4⟩, fun j hj => ?_⟩
  · refine zip_rel (R := fun c c' => ∀ v, DenV w0 O ρ c v → DenV w O1 (inR ρ (upto B.length)) c' v) (fun v h => .inl rfl) keep vals vals' hk hl (fun i c c' h1 h2 v hd => ?_) t _ (r.tmps t)
    rcases hv i c c' h1 h2 with rfl | h
    · exact denV_map (inR_idx ρ (upto B.length)) (denV_sub (w1 := w) q2.mem hd)
    · exact h w0 O ρ _ w Φ O1 r.heap hid q2.mem q3 (fun b o h1 h2 => hgr.own b o h2 ((r.heap.mine _ b o (by rw [hid]; simp) h1).2 (Nat.lt_of_lt_of_le h2 hgr.size))) v _ hd
  · unfold renH
    rw [upto_get]
    rcases Nat.lt_or_ge j B.length with hj | hj
    · rw [if_pos hj]
      have hb := congrArg (fun l => l[j]?) hB
      simp only [List.getElem?_map] at hb
      simp only [Option.bind_some]
      unfold upH BH
      rw [if_neg (by omega), List.getElem?_append_left hj]
      exact hb
    · rw [if_neg (by omega)]
      simp [BH, List.getElem?_eq_none hj]
  · simp [inR, upto_get, show ¬ j < B.length by omega]

/-! ### loops -/
theorem StG.iter {c : Code} {S : Nat → List (Nat × SV)} {B : Nat → List Body} {N : Nat} {Q : Exit → Act → World → Prop}
    (round : ∀ i, i < N → ∀ a w, StG g W OW nT (S i) (B i) a w → ∀ Q' : Exit → Act → World → Prop, (∀ a' w', StG g W OW nT (S (i + 1)) (B (i + 1)) a' w' → Q' .normal a' w') → c.wp g.P Q' a w)
    (last : ∀ a w, StG g W OW nT (S N) (B N) a w → c.wp g.P (Exit.then (fun _ _ => False) Q) a w) : ∀ i, i ≤ N → ∀ a w, StG g W OW nT (S i) (B i) a w → (Code.loop c).wp g.P Q a w := by
  have key : ∀ n i, i + n = N → ∀ a w, StG g W OW nT (S i) (B i) a w → LoopWp g.P c Q a w := by
    intro n
    induction n with
    | zero =>
      intro i hi a w h
      have : i = N := by omega
      subst this
      refine LoopWp.round (wp_mono (last a w h) fun e a w hq => ?_)
      cases e with
      | normal => exact hq.elim
      | _ => exact hq
    | succ n ih =>
      intro i hi a w h
      exact LoopWp.round (round i (by omega) a w h _ fun a' w' h' => ih (i + 1) (by omega) a' w' h')
  intro i hi a w h
  exact LoopWp.wp (key (N - i) i (by omega) a w h)

/-! ### the first pieces of a text -/
def takeSeq : Nat → Code → Code
  | 0, _ => .skip
  | n + 1, .seq a b => .seq a (takeSeq n b)
  | _, _ => .ret
def dropSeq : Nat → Code → Code
  | 0, c => c
  | n + 1, .seq _ b => dropSeq n b
  | _, _ => .skip

theorem exec_cut {w0 : World} {O : Own} (hc : CtxOk g w0 O) : ∀ (k : Nat) (f : Nat) (c : Code) (T : Tmps) (H : Heap) (pl : List Plan) (o : Out), nT < 65535 → exec g (LoopGood g) f nT pl (takeSeq k c) T H = some o → o.e = .normal → AllC o.C →
    H.nx ≤ o.H.nx ∧ ∀ (Q : Exit → Act → World → Prop) ρ Φ a w, RelA nT w0 O ρ (tget T) (hget H) Φ a w → (∀ id, H.nx ≤ id → id < o.H.nx → ρ id = none) → (∀ a' w', Done nT w0 O ρ (tget o.T) (hget o.H) H.nx o.H.nx a' w' → (dropSeq k c).wp g.P Q a' w') → c.wp g.P Q a w
  | 0, f, c, T, H, pl, o, hn, h, he, hC => by
    cases f with
    | zero => simp [exec] at h
    | succ f =>
      unfold exec takeSeq at h
      simp only [Option.some.injEq] at h; subst h
      exact ⟨Nat.le_refl _, fun Q ρ Φ a w r hf hq => hq a w ⟨ρ, Φ, Ext.refl ρ, fun _ h => absurd rfl h, r⟩⟩
  | k + 1, f, c, T, H, pl, o, hn, h, he, hC => by
    cases f with
    | zero => simp [exec] at h
    | succ f =>
      cases c with
      | seq x y =>
        unfold exec takeSeq at h
        simp only at h
        split at h
        · rename_i T1 H1 pl1 C1 h1
          split at h
          · rename_i o2 h2
            simp only [Option.some.injEq] at h; subst h
            obtain ⟨c1, c2⟩ := hC.append
            have k1 := exec_ok hc f _ _ _ _ _ _ hn h1 c1
            have k2 := exec_cut hc k f y _ _ _ _ hn h2 he c2
            refine ⟨Nat.le_trans k1.1 k2.1, fun Q ρ Φ a w r hf hq => ?_⟩
            have hx := wpL_wp (k1.2 ρ Φ a w r fun id p q => hf id p (Nat.lt_of_lt_of_le q k2.1))
            refine wp_seq (wp_mono hx fun e' a' w' ⟨he', ρ', Φ', q1, q2, q3⟩ => ?_)
            subst he'
            exact k2.2 Q ρ' Φ' a' w' q3 (fresh_after q2 hf k1.1) fun a2 w2 hd => hq a2 w2 (Done.trans q1 q2 k1.1 k2.1 hd)
          · simp at h
        · rename_i hne
          obtain ⟨e1, T1, H1, pl1, C1⟩ := o
          simp only at he; subst he
          exact (hne _ _ _ _ h).elim
      | _ => all_goals (unfold exec takeSeq at h; simp only [Option.some.injEq] at h; subst h; simp at he)

theorem StG.cut {k n : Nat} {pl : List Plan} {c : Code} {B' : List Body} {keep ids : List Nat} {vals : List SV} {C : List Prop} (x : StG g W OW nT S B a w) (hU : CtxU g) (hn : nT < 65535)
    (h : runC g n nT pl (takeSeq k c) S B keep ids = some (.normal, vals, B'.map some, C)) (hC : AllC C) (hnd : ids.Nodup) (hk : ∀ k ∈ keep, k < 65535) (hB : B.length < 65535) {Q : Exit → Act → World → Prop}
    (hQ : ∀ a' w', StG g W OW nT (keep.zip vals) B' a' w' → (dropSeq k c).wp g.P Q a' w') : c.wp g.P Q a w := by
  obtain ⟨w0, O, ρ, Φ, hG, hgr, r, hr⟩ := x
  unfold runC at h
  split at h
  · rename_i e1 T H1 pl1 C1 hx
    simp only [Option.some.injEq, Prod.mk.injEq] at h
    obtain ⟨rfl, hv, hb, rfl⟩ := h
    obtain ⟨s1, s2⟩ := exec_cut (hU w0 O hG) k n c _ _ _ _ hn hx rfl hC
    rw [← hget_mkB hB] at r
    refine s2 Q ρ Φ a w r (fun id hid _ => hr id hid) fun a' w' ⟨ρ', Φ', q1, q2, q3⟩ => hQ a' w' ⟨w0, O, inR ρ' ids, inF Φ' ids, hG, hgr, ⟨q3.size, q3.defers, fun t => ?_, ?_⟩, fun j hj => ?_⟩
    · have hz : ∀ y ∈ keep.zip vals, y.1 < 65535 ∧ y.2 = mapC (idx ids) (tget T y.1) := fun y hy => by
        rw [← hv] at hy
        rw [List.mem_iff_getElem?] at hy
        obtain ⟨i, hi⟩ := hy
        rw [List.getElem?_zip_eq_some] at hi
        obtain ⟨i1, i2⟩ := hi
        refine ⟨hk _ (List.mem_of_getElem? i1), ?_⟩
        rw [List.getElem?_map, i1] at i2
        simpa using i2.symm
      rcases tget_mkT _ t fun y hy => (hz y hy).1 with e | ⟨y, h1, h2, h3⟩
      · rw [e]; exact .inl rfl
      · rw [h3, (hz y h1).2, h2]
        exact denV_map (inR_idx ρ' ids) (q3.tmps t)
    · refine relH_funext (fun j => ?_) (relH_ren q3.heap hnd)
      unfold renH BH
      have := congrArg (fun l => l[j]?) hb
      simp only [List.getElem?_map] at this
      cases hj : ids[j]? with
      | none =>
        rw [hj] at this
        cases hb' : B'[j]? with
        | none => rfl
        | some b => rw [hb'] at this; simp at this
      | some id =>
        rw [hj] at this
        cases hb' : B'[j]? with
        | none => rw [hb'] at this; simp at this
        | some b => rw [hb'] at this; simpa using this
    · have : ids.length = B'.length := by have := congrArg List.length hb; simpa using this
      simp [inR, List.getElem?_eq_none (show ids.length ≤ j by omega)]
  · simp at h

/-- a law from its entry on -/
theorem FnOk.ofG {f : FuncId} {fn : Func} {c : Code} {args : List SV} {v : SV} {t : Nat} (hU : CtxU g) (hf : g.P.funcs[f]? = some fn) (hb : fn.body = some c) (hn : fn.ntmps < 65535) (hl : args.length ≤ fn.ntmps) (hr : fn.results.toList = [.tmp t]) (hS : entryT args 0 = mkT S)
    (hv : ∀ w0 O ρ w1 O1 ρ1 u, DenV w0 O ρ v u → DenV w1 O1 ρ1 v u)
    (h : ∀ W OW, GlobOk g W OW → ∀ a w, StG g W OW fn.ntmps S [] a w → c.wp g.P (fun e a' w' => e = .ret ∧ ∃ S' B', StG g W OW fn.ntmps S' B' a' w' ∧ tget (mkT S') t = v) a w) : FnOk g f args [] { val := v } := by
  intro w0 O hG ρ Φ vs w hd x hr0
  refine .inl ⟨fn, hf, (hU w0 O hG).names f fn c hf hb, by rw [hb]; rfl, ?_⟩
  have r := entry_rel hn hl hd x
  rw [hS] at r
  refine calls_of_wp hf hb (wp_mono (h w0 O hG _ w ⟨w0, O, ρ, Φ, hG, Grow.refl _ _, r, fun j _ => hr0 j (Nat.zero_le _)⟩) fun e' a' w' ⟨he, S', B', ⟨w1, O1, ρ1, Φ1, _, hgr, q3, _⟩, ht⟩ => ?_)
  subst he
  obtain ⟨u, r1, r2⟩ := results_den (P := g.P) (fn := fn) (vs := [tget (mkT S') t]) q3.heap q3.tmps (by rw [hr]; rfl)
  rw [ht] at r2
  refine ⟨q3.defers, u, r1, u, rfl, ρ, fun _ _ _ => False, hv _ _ _ _ _ _ u r2, fun j h hh => hh, fun j _ => hr0 j (Nat.zero_le _), ?_⟩
  exact ⟨hgr.back _ q3.heap.frame, fun id bd hb => by simp [afterH, newH, newAll, updAll, BH] at hb, fun _ _ _ _ _ h => absurd (by simp [afterH, newH, newAll, updAll, BH]) h, fun _ _ _ h => absurd (by simp [afterH, newH, newAll, updAll, BH]) h⟩
theorem sbool_all {b : Bool} : ∀ (w0 : World) (O : Own) (ρ : Rho) (w1 : World) (O1 : Own) (ρ1 : Rho) (u : Value), DenV w0 O ρ (.sbool b) u → DenV w1 O1 ρ1 (.sbool b) u := fun _ _ _ _ _ _ _ h => h.imp (fun h => h) fun y => ⟨y.1, by simpa only [DenC] using y.2⟩
theorem bool_all {b : Bool} : ∀ (w0 : World) (O : Own) (ρ : Rho) (w1 : World) (O1 : Own) (ρ1 : Rho) (u : Value), DenV w0 O ρ (.bool b) u → DenV w1 O1 ρ1 (.bool b) u := fun _ _ _ _ _ _ _ h => h.imp (fun h => h) fun y => ⟨y.1, by simpa only [DenC] using y.2⟩
end
end Go.Vx

/- A call whose memory stands from then on: two lists that a function makes. -/
namespace Go.Vx
open Go

section
variable {g : Ctx}
/-- what a call of a function leaves that is walked in pieces -/
theorem callG {f : FuncId} {fn : Func} {c : Code} {args : List SV} {rs : List SV} {S0 : List (Nat × SV)} (hU : CtxU g) (hf : g.P.funcs[f]? = some fn) (hb : fn.body = some c) (hn : fn.ntmps < 65535) (hl : args.length ≤ fn.ntmps) (hS : entryT args 0 = mkT S0)
    {q : Nat} (hcallee : ∀ W OW, q ≤ W.heap.size → (∀ b o, ¬ OW.own b o) → GlobOk g W OW → ∀ a w, StG g W OW fn.ntmps S0 [] a w → c.wp g.P (fun e a' w' => e = .ret ∧ ∃ S' B', StG g W OW fn.ntmps S' B' a' w' ∧ retV g.P (BH B') (mkT S') fn.results.toList = some rs) a w)
    (cargs : ∀ w0 O ρ w1 O1 ρ1 vs, (∀ b o v, O.mem b o v → O1.mem b o v) → DenT w0 O ρ args vs → DenT w1 O1 ρ1 args vs)
    (crs : ∀ w0 O ρ w1 O1 ρ1 v, (∀ b o v, O.mem b o v → O1.mem b o v) → DenV w0 O ρ (retSV rs) v → DenV w1 O1 ρ1 (retSV rs) v)
    {w0 : World} {O : Own} {ρ : Rho} {H : Nat → Option Body} {Φ : Nat → Foot} {w : World} {vs : List Value} (hq : q ≤ w.heap.size) (hG : GlobOk g w0 O) (x : RelH w0 O ρ H w Φ) (hd : DenT w0 O ρ args vs) :
    CallR g.P f vs.toArray w (fun u w' => ∃ O1, RelH w' O1 ρ H w' Φ ∧ Grow w0 O w' O1 ∧ GlobOk g w' O1 ∧ DenV w' O1 ρ (retSV rs) u) := by
  have x1 := rel_in x (ids := []) List.nodup_nil (fun id h => by simp at h)
  have hG1 : GlobOk g w (inO O Φ []) := glob_cong (O := O) rfl hG
  refine .inl ⟨fn, hf, (hU w0 O hG).names f fn c hf hb, by rw [hb]; rfl, ?_⟩
  have x2 : RelH w (inO O Φ []) (fun _ => none) (BH []) w (fun _ _ _ => False) := ⟨x1.frame, fun id bd h => by simp [BH] at h, fun id id' b o _ h => absurd (by simp [BH]) h, fun id b o h => absurd (by simp [BH]) h⟩
  have r := entry_rel hn hl (cargs w0 O ρ w (inO O Φ []) (fun _ => none) vs (fun _ _ _ h => h) hd) x2
  rw [hS] at r
  refine calls_of_wp hf hb (wp_mono (hcallee w (inO O Φ []) hq (fun b o h => by simp [inO] at h) hG1 _ w ⟨w, inO O Φ [], fun _ => none, _, hG1, Grow.refl _ _, r, fun _ _ => rfl⟩) fun e' a' w' ⟨he, S', B', ⟨w1, O1, ρ1, Φ1, hG2, hgr, q3, _⟩, hrs⟩ => ?_)
  subst he
  obtain ⟨u, r1, r2⟩ := results_den (P := g.P) (fn := fn) q3.heap q3.tmps hrs
  have hfr : Frame w (inO O Φ []) w' := hgr.back _ q3.heap.frame
  have x4 : RelH w (inO O Φ []) (fun _ => none) (fun _ => none) w' (fun _ _ _ => False) := ⟨hfr, fun id bd h => by simp at h, fun id id' b o _ h => absurd rfl h, fun id b o h => absurd rfl h⟩
  have x3 := rel_out x (ids := []) (fun id h => by simp at h) (src := fun _ => none) (back := fun _ => none) (ρ2 := fun _ => none) (ρ' := ρ) (H' := H) x4 (Ext.refl ρ) (fun _ _ _ h => by simp at h) (fun _ _ _ h => by simp at h) (fun _ _ _ h => by simp at h) (fun _ _ h => by simp at h) (fun _ _ h => by simp at h) (fun _ _ _ => rfl)
  have hF : outF (fun _ => none) Φ (fun _ _ _ => False) = Φ := rfl
  rw [hF] at x3
  have hold : ∀ b o v, O1.mem b o v → O.mem b o v ∨ w.heap.size ≤ b := fun b o v h => by
    rcases hgr.newer b o v h with h | h | ⟨id, h, _⟩
    · exact .inl h
    · exact .inr h
    · simp at h
  obtain ⟨y1, y2⟩ := x3.rebase (M := O1.mem) (H' := H) (fun _ _ h => h) (fun b o v h => q3.heap.memCell h) (fun b o v h => hgr.mem b o v h) (fun b o v h => by
    rcases hold b o v h with h | h
    · exact .inl h
    · exact .inr (.inl (Nat.le_trans x.frame.size h))) (fun id b o v hi h1 h => by
    rcases hold b o v h with h | h
    · exact x.memFar hi h1 h
    · exact absurd (x.mine id b o hi h1).1 (by omega))
  exact ⟨q3.defers, u, r1, u, rfl, reO O1.mem H Φ, y1, y2, glob_sub (O := O1) (fun _ _ _ h => h) hG2, crs w1 O1 ρ1 w' (reO O1.mem H Φ) ρ u (fun _ _ _ h => h) r2⟩

variable {P : Program} {ops : Array Oper} {Q : Exit → Act → World → Prop} {a : Act} {w : World}
theorem wpO {i : Nat} {rest : List Nat} {o : Oper} (ho : ops[i]? = some o) (hg : o.guard = none) (h : o.wp P a w (wpOps P ops Q rest) Q) : wpOps P ops Q (i :: rest) a w := by
  unfold wpOps
  rw [ho]
  simp only
  rw [if_pos (by unfold Region.wanted; rw [hg])]
  exact .inl h
/-- a step that makes a value out of values -/
theorem wpO_val {nT : Nat} {w0 : World} {O : Own} {ρ : Rho} {T : Nat → SV} {H : Nat → Option Body} {Φ : Nat → Foot} (x : RelA nT w0 O ρ T H Φ a w) {i : Nat} {rest : List Nat} {o : Oper} {d : Nat} {c : SV} (ho : ops[i]? = some o) (hg : o.guard = none) (hd : o.dst = some d) (hn : d < nT)
    (hr : ∃ u, (execOp a.eval o).run P w = .ok (.value u) w ∧ DenV w0 O ρ c u) (k : ∀ u, RelA nT w0 O ρ (putF T (some d) c) H Φ (a.put (some d) u) w → wpOps P ops Q rest (a.put (some d) u) w) : wpOps P ops Q (i :: rest) a w := by
  obtain ⟨u, h1, h2⟩ := hr
  refine wpO ho hg ?_
  unfold Oper.wp
  rw [h1, Oper.upon_value, hd]
  exact k u (x.put (Ext.refl ρ) h2 x.heap (by intro d' e; cases e; exact hn))
theorem exec_move {o : Oper} {t : Nat} (h : o.op = .move (.tmp t) ∨ o.op = .assign (.tmp t)) : (execOp a.eval o).run P w = .ok (.value (a.tmps.getD t undef)) w := by
  obtain ⟨dst, op, ty, pos, after, guard⟩ := o
  rcases h with h | h <;> (simp only at h; subst h; rfl)
theorem exec_extract {o : Oper} {t i : Nat} (h : o.op = .extract (.tmp t) i) {arr : Array Value} {u : Value} (ht : a.tmps.getD t undef = .tuple arr) (hu : arr[i]? = some u) : (execOp a.eval o).run P w = .ok (.value u) w := by
  obtain ⟨dst, op, ty, pos, after, guard⟩ := o
  simp only at h; subst h
  simp [execOp, Act.eval, ht, Instr.extract, hu]
end
theorem ro_sub {w0 : World} {O : Own} {ρ : Rho} {w1 : World} {O1 : Own} {ρ1 : Rho} (hO : ∀ b o v, O.mem b o v → O1.mem b o v) {sz n : Nat} {f : Nat → SV} {v : Value} (h : DenV w0 O ρ (.ro sz n f) v) : DenV w1 O1 ρ1 (.ro sz n f) v := by
  have h := denV_sub (w1 := w1) hO h
  rcases h with h | ⟨h1, h2⟩
  · simp at h
  · refine .inr ⟨h1, ?_⟩
    simp only [DenC] at h2 ⊢
    exact h2
theorem roT_sub {w0 : World} {O : Own} {ρ : Rho} {w1 : World} {O1 : Own} {ρ1 : Rho} (hO : ∀ b o v, O.mem b o v → O1.mem b o v) {sz n : Nat} {f : Nat → SV} {vs : List Value} (h : DenT w0 O ρ [.ro sz n f] vs) : DenT w1 O1 ρ1 [.ro sz n f] vs := by
  simp only [DenT] at h ⊢
  obtain ⟨v, r, rfl, h1, h2⟩ := h
  exact ⟨v, r, rfl, ro_sub hO h1, h2⟩
theorem ro2_sub {w0 : World} {O : Own} {ρ : Rho} {w1 : World} {O1 : Own} {ρ1 : Rho} (hO : ∀ b o v, O.mem b o v → O1.mem b o v) {sz n sz' n' : Nat} {f f' : Nat → SV} {v : Value} (h : DenV w0 O ρ (.tuple [.ro sz n f, .ro sz' n' f']) v) : DenV w1 O1 ρ1 (.tuple [.ro sz n f, .ro sz' n' f']) v := by
  rcases h with h | ⟨h1, h2⟩
  · simp at h
  · refine .inr ⟨h1, ?_⟩
    simp only [DenC, DenT] at h2 ⊢
    obtain ⟨arr, e1, v1, r1, e2, h3, v2, r2, e3, h4, h5⟩ := h2
    exact ⟨arr, e1, v1, r1, e2, ro_sub (w0 := w0) (ρ := ρ) (ρ1 := ρ1) hO h3, v2, r2, e3, ro_sub (w0 := w0) (ρ := ρ) (ρ1 := ρ1) hO h4, h5⟩

theorem putF_same (T : Nat → SV) (d : Nat) (v : SV) : putF T (some d) v d = v := by simp [putF]
theorem putF_ne (T : Nat → SV) {d t : Nat} (v : SV) (h : d ≠ t) : putF T (some d) v t = T t := by simp [putF, h]
/-- a call that hands back two lists -/
theorem StG.two {g : Ctx} {W : World} {OW : Own} {nT id : Nat} {S : List (Nat × SV)} {B : List Body} {a : Act} {w : World} {ops : Array Oper} {o0 o1 o2 o3 o4 o5 o6 : Oper} (hops : ops = #[o0, o1, o2, o3, o4, o5, o6]) {x t1 t2 t3 t4 t5 t6 t7 : Nat}
    (e0 : o0.op = .move (.tmp x)) (e2 : o2.op = .move (.tmp t2)) (e3 : o3.op = .extract (.tmp t3) 0) (e4 : o4.op = .extract (.tmp t3) 1) (e5 : o5.op = .assign (.tmp t4)) (e6 : o6.op = .assign (.tmp t5))
    (hg : o0.guard = none ∧ o1.guard = none ∧ o2.guard = none ∧ o3.guard = none ∧ o4.guard = none ∧ o5.guard = none ∧ o6.guard = none)
    (hd : o0.dst = some t1 ∧ o1.dst = some t2 ∧ o2.dst = some t3 ∧ o3.dst = some t4 ∧ o4.dst = some t5 ∧ o5.dst = some t6 ∧ o6.dst = some t7)
    (ht : t1 < nT ∧ t2 < nT ∧ t3 < nT ∧ t4 < nT ∧ t5 < nT ∧ t6 < nT ∧ t7 < nT) (hne : t4 ≠ t3 ∧ t5 ≠ t4 ∧ t6 ≠ t5)
    {f : FuncId} {fn : Func} {c : Code} {n n' : Nat} {sz sz' sz2 n2 : Nat} {F F0 F1 : Nat → SV} {S0 : List (Nat × SV)} (hU : CtxU g) (hf : g.P.funcs[f]? = some fn) (hb : fn.body = some c) (hn : fn.ntmps < 65535) (hl : 1 ≤ fn.ntmps) (hS : entryT [.ro sz2 n2 F] 0 = mkT S0)
    (hc : ∀ T : Nat → SV, T t1 = .ro sz2 n2 F → calleeV g T o1.op = some (f, [.ro sz2 n2 F])) (ho1 : ∀ y, y ∈ o1.op.operands → y = .tmp t1 ∨ ∃ k, y = .func k)
    {q : Nat} (hcallee : ∀ W OW, q ≤ W.heap.size → (∀ b o, ¬ OW.own b o) → GlobOk g W OW → ∀ a w, StG g W OW fn.ntmps S0 [] a w → c.wp g.P (fun e a' w' => e = .ret ∧ ∃ S' B', StG g W OW fn.ntmps S' B' a' w' ∧ retV g.P (BH B') (mkT S') fn.results.toList = some [.ro sz n F0, .ro sz' n' F1]) a w)
    (hq : q ≤ W.heap.size) (hx : tget (mkT S) x = .ro sz2 n2 F) (h : StG g W OW nT S B a w) {S' : List (Nat × SV)}
    (hS' : ∀ t, tget (mkT S') t = .any ∨ tget (mkT S') t = (if t = t7 then .ro sz' n' F1 else if t = t6 then .ro sz n F0 else if t = t5 ∨ t = t4 ∨ t = t3 ∨ t = t2 ∨ t = t1 then .any else tget (mkT S) t)) {Q : Exit → Act → World → Prop} (hQ : ∀ a' w', StG g W OW nT S' B a' w' → Q .normal a' w') : (Code.region id ops false).wp g.P Q a w := by
  subst hops
  obtain ⟨g0, g1, g2, g3, g4, g5, g6⟩ := hg
  obtain ⟨d0, d1, d2, d3, d4, d5, d6⟩ := hd
  obtain ⟨l1, l2, l3, l4, l5, l6, l7⟩ := ht
  obtain ⟨w0, O, ρ, Φ, hG, hgr, r, hr⟩ := h
  refine wp_region ?_
  show wpOps g.P _ Q [0, 1, 2, 3, 4, 5, 6] a w
  refine wpO_val r (o := o0) (d := t1) (c := .ro sz2 n2 F) rfl g0 d0 l1 ⟨_, exec_move (.inl e0), by have := r.tmps x; rw [hx] at this; exact this⟩ fun u0 r => ?_
  refine wpO (o := o1) rfl g1 ?_
  unfold Oper.wp
  obtain ⟨vs, hvs, hex⟩ := calleeV_spec (a := a.put (some t1) u0) (w0 := w0) (O := O) (ρ := ρ) (hc (putF (tget (mkT S)) (some t1) (.ro sz2 n2 F)) (putF_same _ _ _)) (fun y hy => by
    rcases ho1 y hy with rfl | ⟨k, rfl⟩
    · exact r.tmps t1
    · exact den_cell rfl rfl (by simp only [DenC, opnd, Act.eval]; exact ⟨#[], #[], rfl, by simp [DenT], by simp [DenT]⟩))
  rw [hex]
  refine CallR.upon (callG (args := [.ro sz2 n2 F]) hU hf hb hn hl hS hcallee (fun _ _ _ _ _ _ _ hO h => roT_sub hO h) (fun _ _ _ _ _ _ _ hO h => ro2_sub hO h) (Nat.le_trans hq (Nat.le_trans hgr.size r.heap.frame.size)) hG r.heap hvs) fun v w' ⟨O1, y1, y2, y3, y4⟩ => ?_
  rw [d1]
  have r1 : RelA nT w' O1 ρ (putF (putF (tget (mkT S)) (some t1) (.ro sz2 n2 F)) (some t2) (.tuple [.ro sz n F0, .ro sz' n' F1])) (BH B) Φ ((a.put (some t1) u0).put (some t2) v) w' := by
    have r' : RelA nT w' O1 ρ (putF (tget (mkT S)) (some t1) (.ro sz2 n2 F)) (BH B) Φ (a.put (some t1) u0) w' := ⟨r.size, r.defers, fun t => denV_sub y2.mem (r.tmps t), y1⟩
    exact r'.put (Ext.refl ρ) y4 y1 (by intro d' e; cases e; exact l2)
  refine wpO_val r1 (o := o2) (d := t3) (c := .tuple [.ro sz n F0, .ro sz' n' F1]) rfl g2 d2 l3 ⟨_, exec_move (.inl e2), by have := r1.tmps t2; rw [putF_same] at this; exact this⟩ fun u2 r2 => ?_
  have htup : ∀ {w0 : World} {O : Own} {ρ : Rho} {v : Value}, DenV w0 O ρ (.tuple [.ro sz n F0, .ro sz' n' F1]) v → ∃ arr u v', v = .tuple arr ∧ arr[0]? = some u ∧ arr[1]? = some v' ∧ DenV w0 O ρ (.ro sz n F0) u ∧ DenV w0 O ρ (.ro sz' n' F1) v' := fun {w0 O ρ v} h => by
    obtain ⟨h, _⟩ := denV_cell h (by simp) rfl
    simp only [DenC, DenT] at h
    obtain ⟨arr, e, v1, r1, e1, h1, v2, r2, e2, h2, e3⟩ := h
    simp at e; subst e; subst e3; subst e2
    refine ⟨arr, v1, v2, rfl, ?_, ?_, h1, h2⟩
    · rw [← Array.getElem?_toList, e1]; rfl
    · rw [← Array.getElem?_toList, e1]; rfl
  obtain ⟨arr, q0, q1, p1, p2, p3, p4, p5⟩ := htup (by have := r2.tmps t3; rw [putF_same] at this; exact this)
  refine wpO_val r2 (o := o3) (d := t4) (c := .ro sz n F0) rfl g3 d3 l4 ⟨q0, exec_extract e3 p1 p2, p4⟩ fun u3 r3 => ?_
  obtain ⟨arr', q0', q1', p1', p2', p3', p4', p5'⟩ := htup (by have := r3.tmps t3; rw [putF_ne _ _ hne.1, putF_same] at this; exact this)
  refine wpO_val r3 (o := o4) (d := t5) (c := .ro sz' n' F1) rfl g4 d4 l5 ⟨q1', exec_extract e4 p1' p3', p5'⟩ fun u4 r4 => ?_
  refine wpO_val r4 (o := o5) (d := t6) (c := .ro sz n F0) rfl g5 d5 l6 ⟨_, exec_move (.inr e5), by have := r4.tmps t4; rw [putF_ne _ _ hne.2.1, putF_same] at this; exact this⟩ fun u5 r5 => ?_
  refine wpO_val r5 (o := o6) (d := t7) (c := .ro sz' n' F1) rfl g6 d6 l7 ⟨_, exec_move (.inr e6), by have := r5.tmps t5; rw [putF_ne _ _ hne.2.2, putF_same] at this; exact this⟩ fun u6 r6 => ?_
  refine hQ _ _ ⟨w', O1, ρ, Φ, y3, hgr.trans y2, r6.sub fun t => ?_, hr⟩
  rcases hS' t with e | e
  · exact .inr e
  · rw [e]
    by_cases h7 : t = t7
    · subst h7; left; rw [if_pos rfl, putF_same]
    · rw [if_neg h7, putF_ne _ _ (Ne.symm h7)]
      by_cases h6 : t = t6
      · subst h6; left; rw [if_pos rfl, putF_same]
      · rw [if_neg h6, putF_ne _ _ (Ne.symm h6)]
        by_cases h5 : t = t5 ∨ t = t4 ∨ t = t3 ∨ t = t2 ∨ t = t1
        · right; rw [if_pos h5]
        · left
          rw [if_neg h5]
          simp only [not_or] at h5
          rw [putF_ne _ _ (Ne.symm h5.1), putF_ne _ _ (Ne.symm h5.2.1), putF_ne _ _ (Ne.symm h5.2.2.1), putF_ne _ _ (Ne.symm h5.2.2.2.1), putF_ne _ _ (Ne.symm h5.2.2.2.2)]
end Go.Vx

/- One cell of memory that was given up is written over: what stands then. -/
namespace Go.Vx
open Go

section
variable {W w0 w : World} {OW O : Own} {ρ : Rho} {H : Nat → Option Body} {Φ : Nat → Foot}

theorem poke1 (x : RelH w0 O ρ H w Φ) (hgr : Grow W OW w0 O) (hcl : ∀ id bd, H id = some bd → cleanB bd = true) {b o : Nat} {v0 : Value} (u : Value) (hm : O.mem b o v0) (hb : W.heap.size ≤ b) :
    ∃ O1, RelH (w.setCell (adr b o) u) O1 ρ H (w.setCell (adr b o) u) Φ ∧ Grow W OW (w.setCell (adr b o) u) O1 ∧ (∀ b' o' v, O.mem b' o' v → ¬ (b' = b ∧ o' = o) → O1.mem b' o' v) ∧ O1.mem b o u := by
  have F1 := hgr.back w x.frame
  have hc := x.memCell hm
  have hsz : (w.setCell (adr b o) u).heap.size = w.heap.size := by simp
  let O2 : Own := ⟨fun b' o' => (∃ id, H id ≠ none ∧ Φ id b' o') ∨ (b' = b ∧ o' = o), fun b' o' v => O.mem b' o' v ∧ ¬ (b' = b ∧ o' = o)⟩
  have x1 : RelH w O2 ρ H w Φ := ⟨Frame.refl w O2 (fun b' o' _ h => by
    rcases h with ⟨id, h1, h2⟩ | ⟨rfl, rfl⟩
    · exact x.quiet h1 h2
    · exact F1.calm _ hb) (fun b' o' v h => ⟨x.memCell h.1, fun hh => by
    rcases hh with ⟨id, h1, h2⟩ | hh
    · exact x.memFar h1 h2 h.1
    · exact h.2 hh⟩), fun id bd hb => by
      obtain ⟨hd, q1, q2⟩ := x.holds id bd hb
      exact ⟨hd, q1, holds_clean (hcl id bd hb) q2⟩, x.disj, fun id b' o' hn h1 => ⟨(x.mine id b' o' hn h1).1, fun _ => .inl ⟨id, hn, h1⟩⟩⟩
  have g1 : Grow W OW w O2 := ⟨fun b' o' v h => ⟨hgr.mem _ _ _ h, fun hh => by
      have h1 := World.block_lt_of_cell? W (adr b' o') (F1.mem _ _ _ h).1
      have h1 : b' < W.heap.size := h1
      omega⟩, fun w' h => F1.comp h fun b' o' hb' ho => by
      rcases ho with ⟨id, h1, h2⟩ | ⟨rfl, _⟩
      · exact hgr.own _ _ hb' ((x.mine id b' o' h1 h2).2 (Nat.lt_of_lt_of_le hb' hgr.size))
      · omega, fun b' o' v h => hgr.newer _ _ _ h.1, fun b' o' hb' ho => by
      rcases ho with ⟨id, h1, h2⟩ | ⟨rfl, _⟩
      · exact hgr.own _ _ hb' ((x.mine id b' o' h1 h2).2 (Nat.lt_of_lt_of_le hb' hgr.size))
      · omega, F1.size⟩
  have hne : ∀ id b' o', H id ≠ none → Φ id b' o' → ¬ (b' = b ∧ o' = o) := fun id b' o' h1 h2 hh => by
    obtain ⟨rfl, rfl⟩ := hh
    exact x.memFar h1 h2 hm
  have x2 : RelH w O2 ρ H (w.setCell (adr b o) u) Φ := x1.move (x1.frame.setCell u fun _ => .inr ⟨rfl, rfl⟩) (by rw [hsz]; exact Nat.le_refl _) fun id hn b' o' hF =>
    ⟨World.cell?_setCell_other _ _ _ _ (by rw [Ne, adr_inj]; exact fun hh => hne id b' o' hn hF ⟨hh.1.symm, hh.2.symm⟩), by rw [World.frozen?_setCell]⟩
  obtain ⟨y1, y2⟩ := x2.rebase (M := fun b' o' v => (O.mem b' o' v ∧ ¬ (b' = b ∧ o' = o)) ∨ (b' = b ∧ o' = o ∧ v = u)) (H' := H) (fun _ _ h => h) (fun b' o' v h => by
      rcases h with h | ⟨rfl, rfl, rfl⟩
      · rw [World.cell?_setCell_other _ _ _ _ (by rw [Ne, adr_inj]; exact fun hh => h.2 ⟨hh.1.symm, hh.2.symm⟩)]
        exact x.memCell h.1
      · exact World.cell?_setCell_same _ _ _ hc) (fun b' o' v h => .inl h) (fun b' o' v h => by
      rcases h with h | ⟨rfl, rfl, rfl⟩
      · exact .inl h
      · exact .inr (.inr (.inr ⟨rfl, rfl⟩))) (fun id b' o' v hi h1 h => by
      rcases h with h | ⟨rfl, rfl, rfl⟩
      · exact x.memFar hi h1 h.1
      · exact hne id _ _ hi h1 ⟨rfl, rfl⟩)
  exact ⟨_, y1, g1.trans y2, fun b' o' v h h2 => .inl ⟨h, h2⟩, .inr ⟨rfl, rfl, rfl⟩⟩

/-- a list of lists, one number of one of which was written over -/
theorem den_poke {w1 : World} {O1 : Own} {ρ1 : Rho} {q n : Nat} {d : Nat → List Int} {v : Value} {b o : Nat} {k : IntKind} {nn old : Int} (x : RelH w0 O ρ H w Φ) (h : DenV w0 O ρ (.ro 1 n (fun i => .rob q k (d i))) v)
    (hm : O.mem b o (.int k old)) (hsub : ∀ b' o' v, O.mem b' o' v → ¬ (b' = b ∧ o' = o) → O1.mem b' o' v) (hnew : O1.mem b o (.int k nn)) (hf : Fits k nn) :
    ∃ d' : Nat → List Int, (∀ i, (d' i).length = (d i).length) ∧ (∀ i, i < n → ∀ x ∈ d' i, Fits k x) ∧ DenV w1 O1 ρ1 (.ro 1 n (fun i => .roi k (d' i))) v := by
  obtain ⟨h1, h2⟩ := denV_cell h (by simp) rfl
  simp only [DenC] at h1
  obtain ⟨a, cap, e1, e2, e3⟩ := h1
  by_cases hn : 0 < n
  · obtain ⟨b0, o0, rfl, g2⟩ := e3 hn
    have key : ∀ i, ∃ l : List Int, l.length = (d i).length ∧ (i < n → ∃ us : List Value, us.length = 1 ∧ MemAt w1 O1 b0 (o0 + i * 1) us ∧ DenC w1 O1 (fun _ => none) (.roi k l) us) := by
      intro i
      by_cases hi : i < n
      · obtain ⟨us, u1, u2, u3⟩ := g2 i hi
        obtain ⟨a', cap', rfl, f2, f3, f4⟩ := u3
        have hfar : ∀ (j : Nat) v, ([Value.slice a' (d i).length cap'] : List Value)[j]? = some v → O1.mem b0 (o0 + i * 1 + j) v := fun j v hj => by
          refine hsub _ _ _ (u2 j v hj) fun ⟨ha, hb⟩ => ?_
          have m1 := x.memCell (u2 j v hj)
          have m2 := x.memCell hm
          rw [ha, hb, m2] at m1
          match j, hj with
          | 0, hj => simp at hj; subst hj; simp at m1
        by_cases h0 : 0 < (d i).length
        · obtain ⟨bi, oi, rfl, f5, f6⟩ := f3 h0
          refine ⟨(List.range (d i).length).map fun j => if bi = b ∧ oi + j = o then nn else (d i).getD j 0, by simp, fun _ => ⟨_, u1, hfar, ?_⟩⟩
          simp only [DenC]
          refine ⟨some (adr bi oi), cap', by simp, by simpa using f2, fun _ => ⟨bi, oi, rfl, fun j v hj => ?_⟩, fun m hm' => ?_⟩
          · rw [List.getElem?_map, List.getElem?_map] at hj
            rcases Nat.lt_or_ge j (d i).length with hjl | hjl
            · rw [List.getElem?_range hjl] at hj
              simp only [Option.map_some, Option.some.injEq] at hj
              by_cases hc : bi = b ∧ oi + j = o
              · rw [if_pos hc] at hj
                obtain ⟨rfl, rfl⟩ := hc
                subst hj
                exact hnew
              · rw [if_neg hc] at hj
                refine hsub _ _ _ (f6 j v ?_) hc
                rw [List.getElem?_map, List.getElem?_eq_getElem hjl, Option.map_some, ← hj]
                congr 2
                rw [List.getD_eq_getElem?_getD, List.getElem?_eq_getElem hjl, Option.getD_some]
            · rw [List.getElem?_eq_none (by simpa using hjl)] at hj
              simp at hj
          · simp only [List.mem_map, List.mem_range] at hm'
            obtain ⟨j, hj, rfl⟩ := hm'
            by_cases hc : bi = b ∧ oi + j = o
            · rw [if_pos hc]; exact hf
            · rw [if_neg hc]
              refine f4 _ ?_
              rw [List.getD_eq_getElem?_getD, List.getElem?_eq_getElem hj, Option.getD_some]
              exact List.getElem_mem hj
        · refine ⟨d i, rfl, fun _ => ⟨_, u1, hfar, ?_⟩⟩
          simp only [DenC]
          exact ⟨a', cap', rfl, f2, fun h => absurd h h0, f4⟩
      · exact ⟨d i, rfl, fun h => absurd h hi⟩
    refine ⟨fun i => Classical.choose (key i), fun i => (Classical.choose_spec (key i)).1, fun i hi => ?_, den_cell rfl h2 ?_⟩
    · obtain ⟨us, _, _, h5⟩ := (Classical.choose_spec (key i)).2 hi
      simp only [DenC] at h5
      obtain ⟨_, _, _, _, _, h6⟩ := h5
      exact h6
    simp only [DenC]
    refine ⟨_, cap, e1, e2, fun _ => ⟨b0, o0, rfl, fun i hi => ?_⟩⟩
    have := (Classical.choose_spec (key i)).2 hi
    simp only [DenC] at this
    exact this
  · refine ⟨d, fun _ => rfl, fun i hi => absurd (Nat.lt_of_le_of_lt (Nat.zero_le _) hi) hn, den_cell rfl h2 ?_⟩
    simp only [DenC]
    exact ⟨a, cap, e1, e2, fun h => absurd h hn⟩

/-! ### accounts of lists, of lists that are known to be new memory too -/
def wk1 : SV → SV
  | .rob _ k l => .roi k l
  | c => c
def wkS : SV → SV
  | .ro sz n f => .ro sz n (fun i => wk1 (f i))
  | c => c
def roW (F : SumF) : SumF := fun args B => F (args.map wkS) B
theorem wk1_imp (c : SV) {us : List Value} (h : DenC w0 O ρ c us) : DenC w0 O ρ (wk1 c) us := by
  cases c with
  | rob q k l => exact rob_roi h
  | _ => exact h
theorem wkS_imp (c : SV) : DenImp c (wkS c) := by
  cases c with
  | ro sz n f =>
    intro w0 O ρ v h
    obtain ⟨h1, h2⟩ := denV_cell h (by simp) rfl
    refine den_cell rfl h2 ?_
    simp only [wkS, DenC] at h1 ⊢
    obtain ⟨a, cap, e1, e2, e3⟩ := h1
    exact ⟨a, cap, e1, e2, fun h0 => let ⟨b, o, g1, g2⟩ := e3 h0; ⟨b, o, g1, fun i hi => let ⟨us, u1, u2, u3⟩ := g2 i hi; ⟨us, u1, u2, wk1_imp _ u3⟩⟩⟩
  | _ => exact DenImp.refl _
theorem wkL_imp : ∀ l : List SV, ImpL l (l.map wkS)
  | [] => trivial
  | c :: cs => ⟨wkS_imp c, wkL_imp cs⟩
theorem acc_roW {g : Ctx} {f : FuncId} {F : SumF} (h : Acc g f F) : Acc g f (roW F) := fun args B out ho hC => FnOk.imp (args' := args.map wkS) (h _ B out ho hC) (wkL_imp args)

/-! ### a drawn region that writes at its end -/
variable {P : Program} {ops : Array Oper} {a : Act}
theorem still_val {Q : Act → Prop} {o : Oper} {rest : List Oper} {u : Value} (hg : o.guard = none) (hr : (execOp a.eval o).run P w = .ok (.value u) w) (h : wpStill P ops w Q rest (a.put o.dst u)) : wpStill P ops w Q (o :: rest) a := by
  unfold wpStill
  rw [if_pos (by unfold Region.wanted; rw [hg])]
  unfold Oper.still
  rw [hr]
  simp only [Oper.stillUpon]
  exact ⟨trivial, h⟩
theorem exec_index {o : Oper} {t e : TypeId} {x : Nat} {i : Operand} (h : o.op = .indexAddr t (.tmp x) i) (hu : P.underlying t = some (.slice e)) (he : knownT P e = true) {b base len cap : Nat} {k : IntKind} {ii : Int} (h1 : a.tmps.getD x undef = .slice (some (adr b base)) len cap) (h2 : a.eval i = .int k ii) (hi : 0 ≤ ii ∧ ii < len) :
    (execOp a.eval o).run P w = .ok (.value (.pointer (some (adr b (base + ii.toNat * P.cellsOf e))))) w := by
  obtain ⟨dst, op, ty, pos, after, guard⟩ := o
  simp only at h; subst h
  simp only [execOp, Sem.run_bind]
  have : a.eval (.tmp x) = .slice (some (adr b base)) len cap := h1
  rw [this, h2, run_indexSl hu he hi]
  rfl
theorem exec_load {o : Oper} {t : TypeId} {x : Nat} (h : o.op = .load t (.tmp x)) {dd : TypeDesc} (hu : P.underlying t = some dd) (hagg : isAggT P t = false) (h1c : P.cellsOf t = 1) {b base : Nat} {v : Value} (h1 : a.tmps.getD x undef = .pointer (some (adr b base))) (hc : w.cell? (adr b base) = some v) :
    (execOp a.eval o).run P w = .ok (.value v) w := by
  obtain ⟨dst, op, ty, pos, after, guard⟩ := o
  simp only at h; subst h
  simp only [execOp, Sem.run_bind]
  have : a.eval (.tmp x) = .pointer (some (adr b base)) := h1
  rw [this, loadAt_ptr, (run_loadVar t hu (vs := [v]) (by simpa using h1c.symm) (fun j u hj => by
    match j, hj with
    | 0, hj => simp at hj; subst hj; exact hc)).2 hagg v rfl]
  rfl
theorem exec_xor {o : Oper} {t t2 : TypeId} {x : Nat} {y : Operand} (h : o.op = .binOp .xor t (.tmp x) y t2) {k : IntKind} {m n : Int} (h1 : a.tmps.getD x undef = .int k m) (h2 : a.eval y = .int k n) :
    (execOp a.eval o).run P w = .ok (.value (.int k (k.wrap (((BitVec.ofInt k.bits m).toNat ^^^ (BitVec.ofInt k.bits n).toNat : Nat) : Int)))) w := by
  obtain ⟨dst, op, ty, pos, after, guard⟩ := o
  simp only at h; subst h
  have e : a.eval (.tmp x) = .int k m := h1
  simp only [execOp, Sem.run_bind, e, h2, eqGuard_num, run_xor, Result.andThen_ok]
  rfl
theorem exec_store {o : Oper} {t : TypeId} {x y : Nat} (h : o.op = .store t (.tmp x) (.tmp y)) {dd : TypeDesc} (hu : P.underlying t = some dd) (h1c : P.cellsOf t = 1) {b base : Nat} {k : IntKind} {n : Int} {v : Value} (h1 : a.tmps.getD x undef = .pointer (some (adr b base)))
    (h2 : a.tmps.getD y undef = .int k n) (hc : w.cell? (adr b base) = some v) (hf : w.frozen? (adr b base) = false) :
    (execOp a.eval o).run P w = .ok .skip (w.setCell (adr b base) (.int k n)) := by
  obtain ⟨dst, op, ty, pos, after, guard⟩ := o
  simp only at h; subst h
  have e1 : a.eval (.tmp x) = .pointer (some (adr b base)) := h1
  have e2 : a.eval (.tmp y) = .int k n := h2
  obtain ⟨i, hi⟩ := under_info hu
  have hsz : (Value.int k n).cells.size = P.cellsOf t := by rw [h1c]; rfl
  have hst : (storeCells (adr b base) [Value.int k n]).run P w = .ok () (w.setCell (adr b base) (.int k n)) := by
    simp only [storeCells, Sem.run_bind, adr_add, Nat.add_zero]
    rw [run_store P w _ _ _ (by rfl), hc]
    simp only [hf, Bool.false_eq_true, if_false, Result.andThen_ok]
    rfl
  have : (Instr.storeAt t (.pointer (some (adr b base))) (.int k n)).run P w = .ok () (w.setCell (adr b base) (.int k n)) := by
    simp only [Instr.storeAt, Instr.sureAddr, storeVar, Sem.run_bind, Sem.run_pure, Result.andThen_ok, run_sizeOf t hi, hsz, ne_eq, not_true_eq_false, if_false]
    exact hst
  simp only [execOp, Sem.run_bind, e1, e2, this, Result.andThen_ok]
  rfl
theorem still_raw {nT : Nat} {T : Nat → SV} {Q : Act → Prop} {o : Oper} {rest : List Oper} {u : Value} {d : Nat} (r : RelA nT w0 O ρ T H Φ a w) (hg : o.guard = none) (hd : o.dst = some d) (hn : d < nT) (hv : isAggV u = false)
    (hr : (execOp a.eval o).run P w = .ok (.value u) w) (k : ∀ a', RelA nT w0 O ρ (putF T (some d) (.raw u)) H Φ a' w → wpStill P ops w Q rest a') : wpStill P ops w Q (o :: rest) a := by
  refine still_val hg hr ?_
  rw [hd]
  exact k _ (r.put (Ext.refl ρ) (den_cell rfl hv (by simp only [DenC]; exact ⟨trivial, hv⟩)) r.heap (by intro d' e; cases e; exact hn))
theorem raw_at {nT : Nat} {T : Nat → SV} (r : RelA nT w0 O ρ T H Φ a w) {t : Nat} {u : Value} (h : T t = .raw u) : a.tmps.getD t undef = u := by
  have := r.tmps t
  rw [h] at this
  exact denV_raw this
end
end Go.Vx

/- Plain law of the numbers modulo 2^255 - 19, in limbs of 51 digits. -/
namespace Go.Vx
open Go

def Q : Int := 57896044618658097711785492504343953926634992332820282019728792003956564819949
theorem umask51 {a : Int} (ha : 0 ≤ a) : umask a 2251799813685247 = a % 2251799813685248 := umaskE a 2251799813685247 ha
theorem ushr51 {a : Int} (ha : 0 ≤ a) : ushr a 51 = a / 2251799813685248 := ushrE a 51 ha
theorem usub64 {a b : Int} (ha : 0 ≤ a) (ha2 : a < 18446744073709551616) (hb : 0 ≤ b) (h : b ≤ a) : usub .u64 a b = a - b := by
  obtain ⟨x, rfl⟩ := Int.eq_ofNat_of_zero_le ha
  obtain ⟨y, rfl⟩ := Int.eq_ofNat_of_zero_le hb
  show Int.ofNat (((x : Int).toNat + (18446744073709551616 - (y : Int).toNat)) % 18446744073709551616) = _
  simp only [Int.toNat_natCast, Int.ofNat_eq_natCast]
  omega

/-- the number of five limbs -/
def W5 (a : Nat → Int) : Int := a 0 + 2251799813685248 * a 1 + 5070602400912917605986812821504 * a 2 + 11417981541647679048466287755595961091061972992 * a 3 + 25711008708143844408671393477458601640355247900524685364822016 * a 4

/-! ### carries -/
def fcarL (t : Nat → Int) : List Int :=
  let t1 := uadd .u64 (t 1) (ushr (t 0) 51)
  let t2 := uadd .u64 (t 2) (ushr t1 51)
  let t3 := uadd .u64 (t 3) (ushr t2 51)
  let t4 := uadd .u64 (t 4) (ushr t3 51)
  let m0 := uadd .u64 (umask (t 0) 2251799813685247) (umul .u64 19 (ushr t4 51))
  [umask m0 2251799813685247, uadd .u64 (umask t1 2251799813685247) (ushr m0 51), umask t2 2251799813685247, umask t3 2251799813685247, umask t4 2251799813685247]
def fcarN (la : List Int) (i : Nat) : Int := (fcarL (atL la)).getD i 0

/-- limbs behind the carries -/
def FS (la : List Int) : Prop := (0 ≤ atL la 0 ∧ atL la 0 < 2251799813685248) ∧ (0 ≤ atL la 1 ∧ atL la 1 ≤ 2251799813685248) ∧ (0 ≤ atL la 2 ∧ atL la 2 < 2251799813685248) ∧ (0 ≤ atL la 3 ∧ atL la 3 < 2251799813685248) ∧ (0 ≤ atL la 4 ∧ atL la 4 < 2251799813685248)
/-- limbs that may be carried -/
def FW (la : List Int) : Prop := ∀ i, i < 5 → 0 ≤ atL la i ∧ atL la i < 9223372036854775808

theorem fcar_eq {a : Nat → Int} (h : ∀ i, i < 5 → 0 ≤ a i ∧ a i < 9223372036854775808) : ∃ c0 c1 c2 c3 c4 m c : Int,
    c0 = a 0 / 2251799813685248 ∧ c1 = (a 1 + c0) / 2251799813685248 ∧ c2 = (a 2 + c1) / 2251799813685248 ∧ c3 = (a 3 + c2) / 2251799813685248 ∧ c4 = (a 4 + c3) / 2251799813685248 ∧ m = a 0 % 2251799813685248 + 19 * c4 ∧ c = m / 2251799813685248 ∧
    fcarL a = [m % 2251799813685248, (a 1 + c0) % 2251799813685248 + c, (a 2 + c1) % 2251799813685248, (a 3 + c2) % 2251799813685248, (a 4 + c3) % 2251799813685248] := by
  have h0 := h 0 (by decide)
  have h1 := h 1 (by decide)
  have h2 := h 2 (by decide)
  have h3 := h 3 (by decide)
  have h4 := h 4 (by decide)
  have e0 := ushr51 h0.1
  have e1 : uadd .u64 (a 1) (ushr (a 0) 51) = a 1 + a 0 / 2251799813685248 := by rw [e0]; exact uadd64 h1.1 (by omega) (by omega)
  obtain ⟨c0, hc0⟩ : ∃ c, c = a 0 / 2251799813685248 := ⟨_, rfl⟩
  rw [← hc0] at e1
  have f1 := ushr51 (a := a 1 + c0) (by omega)
  obtain ⟨c1, hc1⟩ : ∃ c, c = (a 1 + c0) / 2251799813685248 := ⟨_, rfl⟩
  rw [← hc1] at f1
  have e2 : uadd .u64 (a 2) c1 = a 2 + c1 := uadd64 h2.1 (by omega) (by omega)
  have f2 := ushr51 (a := a 2 + c1) (by omega)
  obtain ⟨c2, hc2⟩ : ∃ c, c = (a 2 + c1) / 2251799813685248 := ⟨_, rfl⟩
  rw [← hc2] at f2
  have e3 : uadd .u64 (a 3) c2 = a 3 + c2 := uadd64 h3.1 (by omega) (by omega)
  have f3 := ushr51 (a := a 3 + c2) (by omega)
  obtain ⟨c3, hc3⟩ : ∃ c, c = (a 3 + c2) / 2251799813685248 := ⟨_, rfl⟩
  rw [← hc3] at f3
  have e4 : uadd .u64 (a 4) c3 = a 4 + c3 := uadd64 h4.1 (by omega) (by omega)
  have f4 := ushr51 (a := a 4 + c3) (by omega)
  obtain ⟨c4, hc4⟩ : ∃ c, c = (a 4 + c3) / 2251799813685248 := ⟨_, rfl⟩
  rw [← hc4] at f4
  have e5 : umul .u64 19 c4 = 19 * c4 := umul64 (by decide) (by omega) (by omega)
  have e6 : uadd .u64 (a 0 % 2251799813685248) (19 * c4) = a 0 % 2251799813685248 + 19 * c4 := uadd64 (by omega) (by omega) (by omega)
  obtain ⟨m, hm⟩ : ∃ m, m = a 0 % 2251799813685248 + 19 * c4 := ⟨_, rfl⟩
  have m0 : 0 ≤ m := by omega
  have m1 : m < 2251799813685248 + 19 * 4097 := by omega
  rw [← hm] at e6
  have f6 := ushr51 (a := m) m0
  obtain ⟨c, hc⟩ : ∃ c, c = m / 2251799813685248 := ⟨_, rfl⟩
  rw [← hc] at f6
  have e7 : uadd .u64 ((a 1 + c0) % 2251799813685248) c = (a 1 + c0) % 2251799813685248 + c := uadd64 (by omega) (by omega) (by omega)
  refine ⟨c0, c1, c2, c3, c4, m, c, hc0, hc1, hc2, hc3, hc4, hm, hc, ?_⟩
  simp only [fcarL, e1, f1, e2, f2, e3, f3, e4, f4, e5, umask51 h0.1, umask51 (a := a 1 + c0) (by omega), umask51 (a := a 2 + c1) (by omega), umask51 (a := a 3 + c2) (by omega), umask51 (a := a 4 + c3) (by omega), e6, umask51 (a := m) m0, f6, e7]

theorem fcar_spec {la : List Int} (h : FW la) : FS (listF 5 (fcarN la) 0) ∧ ∃ q, W5 (fcarN la) = W5 (atL la) - Q * q := by
  obtain ⟨c0, c1, c2, c3, c4, m, c, k0, k1, k2, k3, k4, k5, k6, e⟩ := fcar_eq h
  have h0 := h 0 (by decide)
  have h1 := h 1 (by decide)
  have h2 := h 2 (by decide)
  have h3 := h 3 (by decide)
  have h4 := h 4 (by decide)
  have s0 : fcarN la 0 = m % 2251799813685248 := by unfold fcarN; rw [e]; rfl
  have s1 : fcarN la 1 = (atL la 1 + c0) % 2251799813685248 + c := by unfold fcarN; rw [e]; rfl
  have s2 : fcarN la 2 = (atL la 2 + c1) % 2251799813685248 := by unfold fcarN; rw [e]; rfl
  have s3 : fcarN la 3 = (atL la 3 + c2) % 2251799813685248 := by unfold fcarN; rw [e]; rfl
  have s4 : fcarN la 4 = (atL la 4 + c3) % 2251799813685248 := by unfold fcarN; rw [e]; rfl
  have b0 : 0 ≤ c0 ∧ c0 ≤ 4096 := by omega
  have b1 : 0 ≤ c1 ∧ c1 ≤ 4097 := by omega
  have b2 : 0 ≤ c2 ∧ c2 ≤ 4097 := by omega
  have b3 : 0 ≤ c3 ∧ c3 ≤ 4097 := by omega
  have b4 : 0 ≤ c4 ∧ c4 ≤ 4097 := by omega
  have b5 : 0 ≤ c ∧ c ≤ 1 := by omega
  refine ⟨?_, c4, ?_⟩
  · show (0 ≤ fcarN la 0 ∧ fcarN la 0 < _) ∧ (0 ≤ fcarN la 1 ∧ fcarN la 1 ≤ _) ∧ (0 ≤ fcarN la 2 ∧ fcarN la 2 < _) ∧ (0 ≤ fcarN la 3 ∧ fcarN la 3 < _) ∧ (0 ≤ fcarN la 4 ∧ fcarN la 4 < _)
    rw [s0, s1, s2, s3, s4]
    omega
  · simp only [W5, Q, s0, s1, s2, s3, s4]
    omega
theorem FS.wide {la : List Int} (h : FS la) : FW la := by
  obtain ⟨h0, h1, h2, h3, h4⟩ := h
  intro i hi
  match i, hi with
  | 0, _ => omega
  | 1, _ => omega
  | 2, _ => omega
  | 3, _ => omega
  | 4, _ => omega

/-! ### sum, difference -/
def faddL (a b : Nat → Int) : List Int := [uadd .u64 (a 0) (b 0), uadd .u64 (a 1) (b 1), uadd .u64 (a 2) (b 2), uadd .u64 (a 3) (b 3), uadd .u64 (a 4) (b 4)]
def fsb (x y : Int) : Int := usub .u64 (uadd .u64 x 4503599627370494) y
def fsubL (a b : Nat → Int) : List Int := [usub .u64 (fsb (a 0) (b 0)) 36, fsb (a 1) (b 1), fsb (a 2) (b 2), fsb (a 3) (b 3), fsb (a 4) (b 4)]
theorem fadd_spec {la lb : List Int} (ha : FS la) (hb : FS lb) : FW (faddL (atL la) (atL lb)) ∧ W5 (atL (faddL (atL la) (atL lb))) = W5 (atL la) + W5 (atL lb) := by
  obtain ⟨h0, h1, h2, h3, h4⟩ := ha
  obtain ⟨k0, k1, k2, k3, k4⟩ := hb
  generalize atL la = a at *
  generalize atL lb = b at *
  have e : faddL a b = [a 0 + b 0, a 1 + b 1, a 2 + b 2, a 3 + b 3, a 4 + b 4] := by
    unfold faddL
    rw [uadd64 (a := a 0) h0.1 k0.1 (by omega), uadd64 (a := a 1) h1.1 k1.1 (by omega), uadd64 (a := a 2) h2.1 k2.1 (by omega), uadd64 (a := a 3) h3.1 k3.1 (by omega), uadd64 (a := a 4) h4.1 k4.1 (by omega)]
  rw [e]
  refine ⟨fun i hi => ?_, ?_⟩
  · match i, hi with
    | 0, _ => show 0 ≤ a 0 + b 0 ∧ a 0 + b 0 < _; omega
    | 1, _ => show 0 ≤ a 1 + b 1 ∧ a 1 + b 1 < _; omega
    | 2, _ => show 0 ≤ a 2 + b 2 ∧ a 2 + b 2 < _; omega
    | 3, _ => show 0 ≤ a 3 + b 3 ∧ a 3 + b 3 < _; omega
    | 4, _ => show 0 ≤ a 4 + b 4 ∧ a 4 + b 4 < _; omega
  · simp only [W5, atL, List.getD_cons_zero, List.getD_cons_succ]; omega
theorem fsb_eq {x y : Int} (hx : 0 ≤ x ∧ x ≤ 2251799813685248) (hy : 0 ≤ y ∧ y ≤ 2251799813685248) : fsb x y = x + 4503599627370494 - y := by
  unfold fsb
  rw [uadd64 hx.1 (by decide) (by omega), usub64 (by omega) (by omega) hy.1 (by omega)]
theorem fsub_spec {la lb : List Int} (ha : FS la) (hb : FS lb) : FW (fsubL (atL la) (atL lb)) ∧ W5 (atL (fsubL (atL la) (atL lb))) = W5 (atL la) - W5 (atL lb) + 2 * Q := by
  obtain ⟨h0, h1, h2, h3, h4⟩ := ha
  obtain ⟨k0, k1, k2, k3, k4⟩ := hb
  generalize atL la = a at *
  generalize atL lb = b at *
  have e : fsubL a b = [a 0 + 4503599627370494 - b 0 - 36, a 1 + 4503599627370494 - b 1, a 2 + 4503599627370494 - b 2, a 3 + 4503599627370494 - b 3, a 4 + 4503599627370494 - b 4] := by
    unfold fsubL
    rw [fsb_eq (x := a 0) (y := b 0) (by omega) (by omega), fsb_eq (x := a 1) (y := b 1) (by omega) (by omega), fsb_eq (x := a 2) (y := b 2) (by omega) (by omega), fsb_eq (x := a 3) (y := b 3) (by omega) (by omega), fsb_eq (x := a 4) (y := b 4) (by omega) (by omega),
      usub64 (a := a 0 + 4503599627370494 - b 0) (by omega) (by omega) (by decide) (by omega)]
  rw [e]
  refine ⟨fun i hi => ?_, ?_⟩
  · match i, hi with
    | 0, _ => simp only [atL, List.getD_cons_zero]; omega
    | 1, _ => simp only [atL, List.getD_cons_zero, List.getD_cons_succ]; omega
    | 2, _ => simp only [atL, List.getD_cons_zero, List.getD_cons_succ]; omega
    | 3, _ => simp only [atL, List.getD_cons_zero, List.getD_cons_succ]; omega
    | 4, _ => simp only [atL, List.getD_cons_zero, List.getD_cons_succ]; omega
  · simp only [W5, Q, atL, List.getD_cons_zero, List.getD_cons_succ]; omega
end Go.Vx

/- Plain law of products modulo 2^255 - 19: numbers of 128 digits. -/
namespace Go.Vx
open Go

def hiW (W : Int) : Int := W / 18446744073709551616 % 18446744073709551616
def loW (W : Int) : Int := W % 18446744073709551616
def jW (h l : Int) : Int := h * 18446744073709551616 + l
theorem jW_eq {W : Int} (h0 : 0 ≤ W) (h1 : W < 340282366920938463463374607431768211456) : jW (hiW W) (loW W) = W := by unfold jW hiW loW; omega
theorem jW_zero : jW 0 0 = 0 := rfl
def mhi (x y : Int) : Int := x * y / 18446744073709551616
def mlo (x y : Int) : Int := x * y % 18446744073709551616
/-- what Mul64 reckons -/
def mul64H (x y : Int) : Int :=
  let x0 := umask x 4294967295
  let x1 := ushr x 32
  let y0 := umask y 4294967295
  let y1 := ushr y 32
  let w0 := umul .u64 x0 y0
  let t := uadd .u64 (umul .u64 x1 y0) (ushr w0 32)
  let w1 := uadd .u64 (umask t 4294967295) (umul .u64 x0 y1)
  uadd .u64 (uadd .u64 (umul .u64 x1 y1) (ushr t 32)) (ushr w1 32)
theorem prod_le {a b m n : Int} (ha : 0 ≤ a ∧ a ≤ m) (hb : 0 ≤ b ∧ b ≤ n) : 0 ≤ a * b ∧ a * b ≤ m * n :=
  ⟨Int.mul_nonneg ha.1 hb.1, Int.mul_le_mul ha.2 hb.2 hb.1 (by omega)⟩
theorem mul64_split (x0 x1 y0 y1 : Int) : (x0 + 4294967296 * x1) * (y0 + 4294967296 * y1) = x0 * y0 + 4294967296 * (x1 * y0 + x0 * y1) + 18446744073709551616 * (x1 * y1) := by grind
theorem mul64_eq {x y : Int} (hx : 0 ≤ x ∧ x < 18446744073709551616) (hy : 0 ≤ y ∧ y < 18446744073709551616) : mul64H x y = mhi x y ∧ umul .u64 x y = mlo x y := by
  constructor
  · have m1 : umask x 4294967295 = x % 4294967296 := umaskE x 4294967295 hx.1
    have m2 : umask y 4294967295 = y % 4294967296 := umaskE y 4294967295 hy.1
    have m3 : ushr x 32 = x / 4294967296 := ushrE x 32 hx.1
    have m4 : ushr y 32 = y / 4294967296 := ushrE y 32 hy.1
    obtain ⟨x0, h0⟩ : ∃ z, z = x % 4294967296 := ⟨_, rfl⟩
    obtain ⟨x1, h1⟩ : ∃ z, z = x / 4294967296 := ⟨_, rfl⟩
    obtain ⟨y0, h2⟩ : ∃ z, z = y % 4294967296 := ⟨_, rfl⟩
    obtain ⟨y1, h3⟩ : ∃ z, z = y / 4294967296 := ⟨_, rfl⟩
    have b0 : 0 ≤ x0 ∧ x0 ≤ 4294967295 := by omega
    have b1 : 0 ≤ x1 ∧ x1 ≤ 4294967295 := by omega
    have b2 : 0 ≤ y0 ∧ y0 ≤ 4294967295 := by omega
    have b3 : 0 ≤ y1 ∧ y1 ≤ 4294967295 := by omega
    have ex : x = x0 + 4294967296 * x1 := by omega
    have ey : y = y0 + 4294967296 * y1 := by omega
    have p00 := prod_le b0 b2
    have p10 := prod_le b1 b2
    have p01 := prod_le b0 b3
    have p11 := prod_le b1 b3
    have sp := mul64_split x0 x1 y0 y1
    have eM : mul64H x y = uadd .u64 (uadd .u64 (umul .u64 x1 y1) (ushr (uadd .u64 (umul .u64 x1 y0) (ushr (umul .u64 x0 y0) 32)) 32)) (ushr (uadd .u64 (umask (uadd .u64 (umul .u64 x1 y0) (ushr (umul .u64 x0 y0) 32)) 4294967295) (umul .u64 x0 y1)) 32) := by
      simp only [mul64H, m1, m2, m3, m4, ← h0, ← h1, ← h2, ← h3]
    unfold mhi
    rw [eM, ex, ey, sp]
    clear eM m1 m2 m3 m4 h0 h1 h2 h3 ex ey sp hx hy
    rw [umul64 (a := x0) (b := y0) b0.1 b2.1 (by omega), umul64 (a := x1) (b := y0) b1.1 b2.1 (by omega), umul64 (a := x0) (b := y1) b0.1 b3.1 (by omega), umul64 (a := x1) (b := y1) b1.1 b3.1 (by omega)]
    generalize x0 * y0 = A at *
    generalize x1 * y0 = B at *
    generalize x0 * y1 = C at *
    generalize x1 * y1 = D at *
    have r1 : ushr A 32 = A / 4294967296 := ushrE A 32 p00.1
    simp only [r1]
    have r2 : uadd .u64 B (A / 4294967296) = B + A / 4294967296 := uadd64 p10.1 (by omega) (by omega)
    simp only [r2]
    have r3 : umask (B + A / 4294967296) 4294967295 = (B + A / 4294967296) % 4294967296 := umaskE _ 4294967295 (by omega)
    have r4 : ushr (B + A / 4294967296) 32 = (B + A / 4294967296) / 4294967296 := ushrE _ 32 (by omega)
    simp only [r3, r4]
    have r5 : uadd .u64 ((B + A / 4294967296) % 4294967296) C = (B + A / 4294967296) % 4294967296 + C := uadd64 (by omega) p01.1 (by omega)
    simp only [r5]
    have r6 : ushr ((B + A / 4294967296) % 4294967296 + C) 32 = ((B + A / 4294967296) % 4294967296 + C) / 4294967296 := ushrE _ 32 (by omega)
    simp only [r6]
    have r7 : uadd .u64 D ((B + A / 4294967296) / 4294967296) = D + (B + A / 4294967296) / 4294967296 := uadd64 p11.1 (by omega) (by omega)
    simp only [r7]
    rw [uadd64 (by omega) (by omega) (by omega)]
    omega
  · obtain ⟨a, rfl⟩ := Int.eq_ofNat_of_zero_le hx.1
    obtain ⟨b, rfl⟩ := Int.eq_ofNat_of_zero_le hy.1
    show Int.ofNat (((a : Int).toNat * (b : Int).toNat) % 18446744073709551616) = _
    simp only [Int.toNat_natCast, Int.ofNat_eq_natCast, mlo]
    rw [Int.natCast_emod, Int.natCast_mul]; rfl
/-- plus: a wide number and a product -/
def plusH (h l x y : Int) : Int := adcS h (mhi x y) (adcC l (mlo x y) 0)
def plusL (l x y : Int) : Int := adcS l (mlo x y) 0
theorem mul_lt {x y : Int} (hx : 0 ≤ x ∧ x < 18446744073709551616) (hy : 0 ≤ y ∧ y < 18446744073709551616) : 0 ≤ x * y ∧ x * y ≤ 18446744073709551615 * 18446744073709551615 := prod_le ⟨hx.1, by omega⟩ ⟨hy.1, by omega⟩
theorem plus_eq {h l x y : Int} (hh : 0 ≤ h ∧ h < 18446744073709551616) (hl : 0 ≤ l ∧ l < 18446744073709551616) (hx : 0 ≤ x ∧ x < 18446744073709551616) (hy : 0 ≤ y ∧ y < 18446744073709551616) :
    plusH h l x y = hiW (jW h l + x * y) ∧ plusL l x y = loW (jW h l + x * y) ∧ (adcC l (mlo x y) 0).toNat ≤ 1 := by
  have p := mul_lt hx hy
  unfold plusH plusL mhi mlo hiW loW jW
  generalize x * y = P at *
  rw [adcC_eq hl.1 (by omega) (by decide), adcS_eq hh.1 (by omega) (by omega), adcS_eq hl.1 (by omega) (by decide)]
  refine ⟨?_, ?_, ?_⟩ <;> omega
/-- nineteen: a wide number and 19 times another one -/
theorem nine_eq {ha la hb lb : Int} (h1 : 0 ≤ ha ∧ ha < 18446744073709551616) (h2 : 0 ≤ la ∧ la < 18446744073709551616) (h3 : 0 ≤ hb ∧ hb < 18446744073709551616) (h4 : 0 ≤ lb ∧ lb < 18446744073709551616) :
    uadd .u64 (hiW (jW ha la + lb * 19)) (umul .u64 hb 19) = hiW (jW ha la + 19 * jW hb lb) ∧ loW (jW ha la + lb * 19) = loW (jW ha la + 19 * jW hb lb) := by
  have e1 : umul .u64 hb 19 = hb * 19 % 18446744073709551616 := (mul64_eq h3 (by decide)).2
  have e2 : ∀ {x y : Int}, 0 ≤ x → 0 ≤ y → uadd .u64 x y = (x + y) % 18446744073709551616 := by
    intro x y hx hy
    obtain ⟨a, rfl⟩ := Int.eq_ofNat_of_zero_le hx
    obtain ⟨b, rfl⟩ := Int.eq_ofNat_of_zero_le hy
    show Int.ofNat (((a : Int).toNat + (b : Int).toNat) % 18446744073709551616) = _
    simp only [Int.toNat_natCast, Int.ofNat_eq_natCast]
    omega
  unfold hiW loW jW
  rw [e1, e2 (by omega) (by omega)]
  constructor <;> omega

/-! ### a product's five wide numbers -/
def n0 (x y : Int) : Int := jW 0 0 + x * y
def nx (W x y : Int) : Int := jW (hiW W) (loW W) + x * y
def n19 (W V : Int) : Int := jW (hiW W) (loW W) + 19 * jW (hiW V) (loW V)
def n19z (W : Int) : Int := jW (hiW W) (loW W) + 19 * jW 0 0
def fwL (a b : Nat → Int) : List Int :=
  let N0 := n19 (n0 (a 0) (b 0)) (nx (nx (nx (n0 (a 1) (b 4)) (a 2) (b 3)) (a 3) (b 2)) (a 4) (b 1))
  let N1 := n19 (nx (n0 (a 0) (b 1)) (a 1) (b 0)) (nx (nx (n0 (a 2) (b 4)) (a 3) (b 3)) (a 4) (b 2))
  let N2 := n19 (nx (nx (n0 (a 0) (b 2)) (a 1) (b 1)) (a 2) (b 0)) (nx (n0 (a 3) (b 4)) (a 4) (b 3))
  let N3 := n19 (nx (nx (nx (n0 (a 0) (b 3)) (a 1) (b 2)) (a 2) (b 1)) (a 3) (b 0)) (n0 (a 4) (b 4))
  let N4 := n19z (nx (nx (nx (nx (n0 (a 0) (b 4)) (a 1) (b 3)) (a 2) (b 2)) (a 3) (b 1)) (a 4) (b 0))
  [hiW N0, loW N0, hiW N1, loW N1, hiW N2, loW N2, hiW N3, loW N3, hiW N4, loW N4]
def fscL (a : Nat → Int) (n : Int) : List Int :=
  [hiW (n0 (a 0) n), loW (n0 (a 0) n), hiW (n0 (a 1) n), loW (n0 (a 1) n), hiW (n0 (a 2) n), loW (n0 (a 2) n), hiW (n0 (a 3) n), loW (n0 (a 3) n), hiW (n0 (a 4) n), loW (n0 (a 4) n)]

/-! ### folded -/
def stH (h l ch cl : Int) : Int := uadd .u64 (hiW (jW h l + cl * 1)) ch
def stL (h l cl : Int) : Int := loW (jW h l + cl * 1)
def clN (H L : Int) : Int := uor (ushl .u64 H 13) (ushr L 51)
def foldL (t : Nat → Int) : List Int :=
  let H0 := stH (t 0) (t 1) 0 0
  let L0 := stL (t 0) (t 1) 0
  let c0 := clN H0 L0
  let H1 := stH (t 2) (t 3) (ushr H0 51) c0
  let L1 := stL (t 2) (t 3) c0
  let c1 := clN H1 L1
  let H2 := stH (t 4) (t 5) (ushr H1 51) c1
  let L2 := stL (t 4) (t 5) c1
  let c2 := clN H2 L2
  let H3 := stH (t 6) (t 7) (ushr H2 51) c2
  let L3 := stL (t 6) (t 7) c2
  let c3 := clN H3 L3
  let H4 := stH (t 8) (t 9) (ushr H3 51) c3
  let L4 := stL (t 8) (t 9) c3
  let c4 := clN H4 L4
  [uadd .u64 (umask L0 2251799813685247) (umul .u64 c4 19), umask L1 2251799813685247, umask L2 2251799813685247, umask L3 2251799813685247, umask L4 2251799813685247]
def foldN (la : List Int) : Nat → Int := fcarN (foldL (atL la))
theorem step_eq {T C h l ch cl : Int} (hT : jW h l = T) (hC : jW ch cl = C) (hh : 0 ≤ h ∧ h < 18446744073709551616) (hl : 0 ≤ l ∧ l < 18446744073709551616) (hch : 0 ≤ ch ∧ ch < 18446744073709551616) (hcl : 0 ≤ cl ∧ cl < 18446744073709551616) (hb : T + C < 10384593717069655257060992658440192) :
    umask (stL h l cl) 2251799813685247 = (T + C) % 2251799813685248 ∧ (0 ≤ ushr (stH h l ch cl) 51 ∧ ushr (stH h l ch cl) 51 < 18446744073709551616) ∧ (0 ≤ clN (stH h l ch cl) (stL h l cl) ∧ clN (stH h l ch cl) (stL h l cl) < 18446744073709551616) ∧
      jW (ushr (stH h l ch cl) 51) (clN (stH h l ch cl) (stL h l cl)) = (T + C) / 2251799813685248 ∧ (T + C < 41538374868278621028243970633760768 → clN (stH h l ch cl) (stL h l cl) = (T + C) / 2251799813685248) := by
  subst hT hC
  have eL : stL h l cl = (jW h l + jW ch cl) % 18446744073709551616 := by unfold stL loW jW; omega
  have eH : stH h l ch cl = (jW h l + jW ch cl) / 18446744073709551616 := by
    unfold stH hiW
    unfold jW at hb ⊢
    rw [uadd64 (by omega) hch.1 (by omega)]
    omega
  have s0 : 0 ≤ jW h l + jW ch cl := by unfold jW; omega
  rw [eL, eH]
  generalize jW h l + jW ch cl = S at *
  have e1 : umask (S % 18446744073709551616) 2251799813685247 = S % 18446744073709551616 % 2251799813685248 := umask51 (by omega)
  have e2 : ushr (S / 18446744073709551616) 51 = S / 18446744073709551616 / 2251799813685248 := ushr51 (by omega)
  have e3 : ushr (S % 18446744073709551616) 51 = S % 18446744073709551616 / 2251799813685248 := ushr51 (by omega)
  have e4 : ushl .u64 (S / 18446744073709551616) 13 = S / 18446744073709551616 * 8192 % 18446744073709551616 := ushlE _ 13 (by omega)
  have e5 : clN (S / 18446744073709551616) (S % 18446744073709551616) = S / 18446744073709551616 * 8192 % 18446744073709551616 + S % 18446744073709551616 / 2251799813685248 := by
    unfold clN
    rw [e3, e4]
    have hc : ∀ x y : Int, uor x y = uor y x := fun x y => by unfold uor; rw [Nat.or_comm]
    rw [hc, uor_add 13 (by omega) (by show _ < (8192 : Int); omega) (by omega) (by show _ % (8192 : Int) = 0; omega)]
    omega
  rw [e1, e2, e5]
  unfold jW
  refine ⟨by omega, by omega, by omega, by omega, by omega⟩
theorem fold_spec {la : List Int} {T0 T1 T2 T3 T4 : Int} (h : ∀ i, i < 10 → 0 ≤ atL la i ∧ atL la i < 18446744073709551616)
    (t0 : jW (atL la 0) (atL la 1) = T0) (t1 : jW (atL la 2) (atL la 3) = T1) (t2 : jW (atL la 4) (atL la 5) = T2) (t3 : jW (atL la 6) (atL la 7) = T3) (t4 : jW (atL la 8) (atL la 9) = T4)
    (b0 : T0 < 5192296858534827628530496329220096) (b1 : T1 < 5192296858534827628530496329220096) (b2 : T2 < 5192296858534827628530496329220096) (b3 : T3 < 5192296858534827628530496329220096) (b4 : T4 < 649037107316853453566312041152512) :
    FS (listF 5 (foldN la) 0) ∧ ∃ q, W5 (foldN la) = T0 + 2251799813685248 * T1 + 5070602400912917605986812821504 * T2 + 11417981541647679048466287755595961091061972992 * T3 + 25711008708143844408671393477458601640355247900524685364822016 * T4 - Q * q := by
  have n0 : 0 ≤ T0 := by rw [← t0]; unfold jW; have := h 0 (by decide); have := h 1 (by decide); omega
  have n1 : 0 ≤ T1 := by rw [← t1]; unfold jW; have := h 2 (by decide); have := h 3 (by decide); omega
  have n2 : 0 ≤ T2 := by rw [← t2]; unfold jW; have := h 4 (by decide); have := h 5 (by decide); omega
  have n3 : 0 ≤ T3 := by rw [← t3]; unfold jW; have := h 6 (by decide); have := h 7 (by decide); omega
  have n4 : 0 ≤ T4 := by rw [← t4]; unfold jW; have := h 8 (by decide); have := h 9 (by decide); omega
  obtain ⟨r0, p0, q0, e0, _⟩ := step_eq (C := 0) t0 jW_zero (h 0 (by decide)) (h 1 (by decide)) (by decide) (by decide) (by omega)
  rw [Int.add_zero] at r0 e0
  obtain ⟨C0, hC0⟩ : ∃ c, c = T0 / 2251799813685248 := ⟨_, rfl⟩
  rw [← hC0] at e0
  obtain ⟨r1, p1, q1, e1, _⟩ := step_eq t1 e0 (h 2 (by decide)) (h 3 (by decide)) p0 q0 (by omega)
  obtain ⟨C1, hC1⟩ : ∃ c, c = (T1 + C0) / 2251799813685248 := ⟨_, rfl⟩
  rw [← hC1] at e1
  obtain ⟨r2, p2, q2, e2, _⟩ := step_eq t2 e1 (h 4 (by decide)) (h 5 (by decide)) p1 q1 (by omega)
  obtain ⟨C2, hC2⟩ : ∃ c, c = (T2 + C1) / 2251799813685248 := ⟨_, rfl⟩
  rw [← hC2] at e2
  obtain ⟨r3, p3, q3, e3, _⟩ := step_eq t3 e2 (h 6 (by decide)) (h 7 (by decide)) p2 q2 (by omega)
  obtain ⟨C3, hC3⟩ : ∃ c, c = (T3 + C2) / 2251799813685248 := ⟨_, rfl⟩
  rw [← hC3] at e3
  obtain ⟨r4, p4, q4, e4, k4⟩ := step_eq t4 e3 (h 8 (by decide)) (h 9 (by decide)) p3 q3 (by omega)
  obtain ⟨C4, hC4⟩ : ∃ c, c = (T4 + C3) / 2251799813685248 := ⟨_, rfl⟩
  rw [← hC4] at e4
  have k4 := k4 (by omega)
  rw [← hC4] at k4
  clear e0 e1 e2 e3 e4 p0 p1 p2 p3 p4 q0 q1 q2 q3 q4
  have c4b : 0 ≤ C4 ∧ C4 ≤ 288230376151720000 := by omega
  have e5 : umul .u64 C4 19 = C4 * 19 := umul64 c4b.1 (by decide) (by omega)
  have e6 : uadd .u64 (T0 % 2251799813685248) (C4 * 19) = T0 % 2251799813685248 + C4 * 19 := uadd64 (by omega) (by omega) (by omega)
  have e : foldL (atL la) = [T0 % 2251799813685248 + C4 * 19, (T1 + C0) % 2251799813685248, (T2 + C1) % 2251799813685248, (T3 + C2) % 2251799813685248, (T4 + C3) % 2251799813685248] := by
    simp only [foldL, r0, r1, r2, r3, r4, k4, e5, e6]
  obtain ⟨w, hw⟩ : ∃ w, w = foldL (atL la) := ⟨_, rfl⟩
  have w0 : atL w 0 = T0 % 2251799813685248 + C4 * 19 := by rw [hw, e]; rfl
  have w1 : atL w 1 = (T1 + C0) % 2251799813685248 := by rw [hw, e]; rfl
  have w2 : atL w 2 = (T2 + C1) % 2251799813685248 := by rw [hw, e]; rfl
  have w3 : atL w 3 = (T3 + C2) % 2251799813685248 := by rw [hw, e]; rfl
  have w4 : atL w 4 = (T4 + C3) % 2251799813685248 := by rw [hw, e]; rfl
  clear r0 r1 r2 r3 r4 k4 e e5 e6 h t0 t1 t2 t3 t4
  have fw : FW w := fun i hi => by
    match i, hi with
    | 0, _ => rw [w0]; omega
    | 1, _ => rw [w1]; omega
    | 2, _ => rw [w2]; omega
    | 3, _ => rw [w3]; omega
    | 4, _ => rw [w4]; omega
  obtain ⟨f1, q, f2⟩ := fcar_spec fw
  have ef : foldN la = fcarN w := by rw [hw]; rfl
  rw [ef]
  refine ⟨f1, q + C4, ?_⟩
  rw [f2]
  simp only [W5, Q, w0, w1, w2, w3, w4]
  omega
end Go.Vx

/- Plain law of the product, of Scale, of powers, of bytes. -/
namespace Go.Vx
open Go

def fmulN (la lb : List Int) : Nat → Int := foldN (fwL (atL la) (atL lb))
def fsclN (la : List Int) (n : Int) : Nat → Int := foldN (fscL (atL la) n)
def faddN (la lb : List Int) : Nat → Int := fcarN (faddL (atL la) (atL lb))
def fsubN (la lb : List Int) : Nat → Int := fcarN (fsubL (atL la) (atL lb))

theorem hilo {N : Int} (h0 : 0 ≤ N) : (0 ≤ hiW N ∧ hiW N < 18446744073709551616) ∧ (0 ≤ loW N ∧ loW N < 18446744073709551616) := by unfold hiW loW; omega
theorem n0_eq (x y : Int) : n0 x y = x * y := by unfold n0; rw [jW_zero, Int.zero_add]
theorem nx_eq {W : Int} (x y : Int) (h0 : 0 ≤ W) (h1 : W < 340282366920938463463374607431768211456) : nx W x y = W + x * y := by unfold nx; rw [jW_eq h0 h1]
theorem n19_eq {W V : Int} (h0 : 0 ≤ W) (h1 : W < 340282366920938463463374607431768211456) (h2 : 0 ≤ V) (h3 : V < 340282366920938463463374607431768211456) : n19 W V = W + 19 * V := by unfold n19; rw [jW_eq h0 h1, jW_eq h2 h3]
theorem n19z_eq {W : Int} (h0 : 0 ≤ W) (h1 : W < 340282366920938463463374607431768211456) : n19z W = W := by unfold n19z; rw [jW_eq h0 h1, jW_zero]; omega
theorem fprod {a b : Int} (ha : 0 ≤ a ∧ a ≤ 2251799813685248) (hb : 0 ≤ b ∧ b ≤ 2251799813685248) : 0 ≤ a * b ∧ a * b ≤ 5070602400912917605986812821504 := by
  have := prod_le ha hb
  omega
theorem fmul_ring (a0 a1 a2 a3 a4 b0 b1 b2 b3 b4 : Int) :
    (a0 * b0 + 19 * (a1 * b4 + a2 * b3 + a3 * b2 + a4 * b1)) + 2251799813685248 * (a0 * b1 + a1 * b0 + 19 * (a2 * b4 + a3 * b3 + a4 * b2)) + 5070602400912917605986812821504 * (a0 * b2 + a1 * b1 + a2 * b0 + 19 * (a3 * b4 + a4 * b3)) + 11417981541647679048466287755595961091061972992 * (a0 * b3 + a1 * b2 + a2 * b1 + a3 * b0 + 19 * (a4 * b4)) + 25711008708143844408671393477458601640355247900524685364822016 * (a0 * b4 + a1 * b3 + a2 * b2 + a3 * b1 + a4 * b0)
    = (a0 + 2251799813685248 * a1 + 5070602400912917605986812821504 * a2 + 11417981541647679048466287755595961091061972992 * a3 + 25711008708143844408671393477458601640355247900524685364822016 * a4) * (b0 + 2251799813685248 * b1 + 5070602400912917605986812821504 * b2 + 11417981541647679048466287755595961091061972992 * b3 + 25711008708143844408671393477458601640355247900524685364822016 * b4)
      - 57896044618658097711785492504343953926634992332820282019728792003956564819949 * ((a1 * b4 + a2 * b3 + a3 * b2 + a4 * b1) + 2251799813685248 * (a2 * b4 + a3 * b3 + a4 * b2) + 5070602400912917605986812821504 * (a3 * b4 + a4 * b3) + 11417981541647679048466287755595961091061972992 * (a4 * b4)) := by grind
theorem FS.le {la : List Int} (h : FS la) : ∀ i, i < 5 → 0 ≤ atL la i ∧ atL la i ≤ 2251799813685248 := by
  obtain ⟨h0, h1, h2, h3, h4⟩ := h
  intro i hi
  match i, hi with
  | 0, _ => omega
  | 1, _ => omega
  | 2, _ => omega
  | 3, _ => omega
  | 4, _ => omega
theorem fmul_spec {la lb : List Int} (ha : FS la) (hb : FS lb) : FS (listF 5 (fmulN la lb) 0) ∧ ∃ q, W5 (fmulN la lb) = W5 (atL la) * W5 (atL lb) - Q * q := by
  have u := ha.le
  have v := hb.le
  unfold fmulN
  generalize atL la = a at *
  generalize atL lb = b at *
  have pr : ∀ i j, i < 5 → j < 5 → 0 ≤ a i * b j ∧ a i * b j ≤ 5070602400912917605986812821504 := fun i j hi hj => fprod (u i hi) (v j hj)
  have e00 := pr 0 0 (by decide) (by decide)
  have e01 := pr 0 1 (by decide) (by decide)
  have e02 := pr 0 2 (by decide) (by decide)
  have e03 := pr 0 3 (by decide) (by decide)
  have e04 := pr 0 4 (by decide) (by decide)
  have e10 := pr 1 0 (by decide) (by decide)
  have e11 := pr 1 1 (by decide) (by decide)
  have e12 := pr 1 2 (by decide) (by decide)
  have e13 := pr 1 3 (by decide) (by decide)
  have e14 := pr 1 4 (by decide) (by decide)
  have e20 := pr 2 0 (by decide) (by decide)
  have e21 := pr 2 1 (by decide) (by decide)
  have e22 := pr 2 2 (by decide) (by decide)
  have e23 := pr 2 3 (by decide) (by decide)
  have e24 := pr 2 4 (by decide) (by decide)
  have e30 := pr 3 0 (by decide) (by decide)
  have e31 := pr 3 1 (by decide) (by decide)
  have e32 := pr 3 2 (by decide) (by decide)
  have e33 := pr 3 3 (by decide) (by decide)
  have e34 := pr 3 4 (by decide) (by decide)
  have e40 := pr 4 0 (by decide) (by decide)
  have e41 := pr 4 1 (by decide) (by decide)
  have e42 := pr 4 2 (by decide) (by decide)
  have e43 := pr 4 3 (by decide) (by decide)
  have e44 := pr 4 4 (by decide) (by decide)
  have E0 : n19 (n0 (a 0) (b 0)) (nx (nx (nx (n0 (a 1) (b 4)) (a 2) (b 3)) (a 3) (b 2)) (a 4) (b 1)) = a 0 * b 0 + 19 * (a 1 * b 4 + a 2 * b 3 + a 3 * b 2 + a 4 * b 1) := by
    rw [n0_eq, n0_eq, nx_eq (W := a 1 * b 4) _ _ (by omega) (by omega), nx_eq (W := a 1 * b 4 + a 2 * b 3) _ _ (by omega) (by omega), nx_eq (W := a 1 * b 4 + a 2 * b 3 + a 3 * b 2) _ _ (by omega) (by omega), n19_eq (by omega) (by omega) (by omega) (by omega)]
  have E1 : n19 (nx (n0 (a 0) (b 1)) (a 1) (b 0)) (nx (nx (n0 (a 2) (b 4)) (a 3) (b 3)) (a 4) (b 2)) = a 0 * b 1 + a 1 * b 0 + 19 * (a 2 * b 4 + a 3 * b 3 + a 4 * b 2) := by
    rw [n0_eq, n0_eq, nx_eq (W := a 0 * b 1) _ _ (by omega) (by omega), nx_eq (W := a 2 * b 4) _ _ (by omega) (by omega), nx_eq (W := a 2 * b 4 + a 3 * b 3) _ _ (by omega) (by omega), n19_eq (by omega) (by omega) (by omega) (by omega)]
  have E2 : n19 (nx (nx (n0 (a 0) (b 2)) (a 1) (b 1)) (a 2) (b 0)) (nx (n0 (a 3) (b 4)) (a 4) (b 3)) = a 0 * b 2 + a 1 * b 1 + a 2 * b 0 + 19 * (a 3 * b 4 + a 4 * b 3) := by
    rw [n0_eq, n0_eq, nx_eq (W := a 0 * b 2) _ _ (by omega) (by omega), nx_eq (W := a 0 * b 2 + a 1 * b 1) _ _ (by omega) (by omega), nx_eq (W := a 3 * b 4) _ _ (by omega) (by omega), n19_eq (by omega) (by omega) (by omega) (by omega)]
  have E3 : n19 (nx (nx (nx (n0 (a 0) (b 3)) (a 1) (b 2)) (a 2) (b 1)) (a 3) (b 0)) (n0 (a 4) (b 4)) = a 0 * b 3 + a 1 * b 2 + a 2 * b 1 + a 3 * b 0 + 19 * (a 4 * b 4) := by
    rw [n0_eq, n0_eq, nx_eq (W := a 0 * b 3) _ _ (by omega) (by omega), nx_eq (W := a 0 * b 3 + a 1 * b 2) _ _ (by omega) (by omega), nx_eq (W := a 0 * b 3 + a 1 * b 2 + a 2 * b 1) _ _ (by omega) (by omega), n19_eq (by omega) (by omega) (by omega) (by omega)]
  have E4 : n19z (nx (nx (nx (nx (n0 (a 0) (b 4)) (a 1) (b 3)) (a 2) (b 2)) (a 3) (b 1)) (a 4) (b 0)) = a 0 * b 4 + a 1 * b 3 + a 2 * b 2 + a 3 * b 1 + a 4 * b 0 := by
    rw [n0_eq, nx_eq (W := a 0 * b 4) _ _ (by omega) (by omega), nx_eq (W := a 0 * b 4 + a 1 * b 3) _ _ (by omega) (by omega), nx_eq (W := a 0 * b 4 + a 1 * b 3 + a 2 * b 2) _ _ (by omega) (by omega), nx_eq (W := a 0 * b 4 + a 1 * b 3 + a 2 * b 2 + a 3 * b 1) _ _ (by omega) (by omega), n19z_eq (by omega) (by omega)]
  obtain ⟨N0, h0⟩ : ∃ N, N = a 0 * b 0 + 19 * (a 1 * b 4 + a 2 * b 3 + a 3 * b 2 + a 4 * b 1) := ⟨_, rfl⟩
  obtain ⟨N1, h1⟩ : ∃ N, N = a 0 * b 1 + a 1 * b 0 + 19 * (a 2 * b 4 + a 3 * b 3 + a 4 * b 2) := ⟨_, rfl⟩
  obtain ⟨N2, h2⟩ : ∃ N, N = a 0 * b 2 + a 1 * b 1 + a 2 * b 0 + 19 * (a 3 * b 4 + a 4 * b 3) := ⟨_, rfl⟩
  obtain ⟨N3, h3⟩ : ∃ N, N = a 0 * b 3 + a 1 * b 2 + a 2 * b 1 + a 3 * b 0 + 19 * (a 4 * b 4) := ⟨_, rfl⟩
  obtain ⟨N4, h4⟩ : ∃ N, N = a 0 * b 4 + a 1 * b 3 + a 2 * b 2 + a 3 * b 1 + a 4 * b 0 := ⟨_, rfl⟩
  have eL : fwL a b = [hiW N0, loW N0, hiW N1, loW N1, hiW N2, loW N2, hiW N3, loW N3, hiW N4, loW N4] := by
    simp only [fwL, E0, E1, E2, E3, E4, ← h0, ← h1, ← h2, ← h3, ← h4]
  have c0 : 0 ≤ N0 ∧ N0 < 649037107316853453566312041152512 := by omega
  have c1 : 0 ≤ N1 ∧ N1 < 649037107316853453566312041152512 := by omega
  have c2 : 0 ≤ N2 ∧ N2 < 649037107316853453566312041152512 := by omega
  have c3 : 0 ≤ N3 ∧ N3 < 649037107316853453566312041152512 := by omega
  have c4 : 0 ≤ N4 ∧ N4 < 649037107316853453566312041152512 := by omega
  have fin := fmul_ring (a 0) (a 1) (a 2) (a 3) (a 4) (b 0) (b 1) (b 2) (b 3) (b 4)
  rw [← h0, ← h1, ← h2, ← h3, ← h4] at fin
  clear e00 e01 e02 e03 e04 e10 e11 e12 e13 e14 e20 e21 e22 e23 e24 e30 e31 e32 e33 e34 e40 e41 e42 e43 e44 pr E0 E1 E2 E3 E4 h0 h1 h2 h3 h4
  rw [eL]
  obtain ⟨f1, q, f2⟩ := fold_spec (la := [hiW N0, loW N0, hiW N1, loW N1, hiW N2, loW N2, hiW N3, loW N3, hiW N4, loW N4]) (T0 := N0) (T1 := N1) (T2 := N2) (T3 := N3) (T4 := N4) (fun i hi => by
    match i, hi with
    | 0, _ => exact (hilo c0.1).1
    | 1, _ => exact (hilo c0.1).2
    | 2, _ => exact (hilo c1.1).1
    | 3, _ => exact (hilo c1.1).2
    | 4, _ => exact (hilo c2.1).1
    | 5, _ => exact (hilo c2.1).2
    | 6, _ => exact (hilo c3.1).1
    | 7, _ => exact (hilo c3.1).2
    | 8, _ => exact (hilo c4.1).1
    | 9, _ => exact (hilo c4.1).2) (jW_eq c0.1 (by omega)) (jW_eq c1.1 (by omega)) (jW_eq c2.1 (by omega)) (jW_eq c3.1 (by omega)) (jW_eq c4.1 (by omega)) (by omega) (by omega) (by omega) (by omega) (by omega)
  have fin2 : ∃ k, N0 + 2251799813685248 * N1 + 5070602400912917605986812821504 * N2 + 11417981541647679048466287755595961091061972992 * N3 + 25711008708143844408671393477458601640355247900524685364822016 * N4 = W5 a * W5 b - Q * k := ⟨_, fin⟩
  obtain ⟨k, hk⟩ := fin2
  refine ⟨f1, q + k, ?_⟩
  rw [f2, hk, Int.mul_add]
  omega
theorem fscl_ring (a0 a1 a2 a3 a4 n : Int) : a0 * n + 2251799813685248 * (a1 * n) + 5070602400912917605986812821504 * (a2 * n) + 11417981541647679048466287755595961091061972992 * (a3 * n) + 25711008708143844408671393477458601640355247900524685364822016 * (a4 * n)
    = (a0 + 2251799813685248 * a1 + 5070602400912917605986812821504 * a2 + 11417981541647679048466287755595961091061972992 * a3 + 25711008708143844408671393477458601640355247900524685364822016 * a4) * n := by grind
theorem fscl_spec {la : List Int} {n : Int} (ha : FS la) (hn : 0 ≤ n ∧ n < 4294967296) : FS (listF 5 (fsclN la n) 0) ∧ ∃ q, W5 (fsclN la n) = W5 (atL la) * n - Q * q := by
  have u := ha.le
  unfold fsclN
  generalize atL la = a at *
  have pr : ∀ i, i < 5 → 0 ≤ a i * n ∧ a i * n ≤ 2251799813685248 * 4294967296 := fun i hi => prod_le (u i hi) ⟨hn.1, by omega⟩
  have c0 := pr 0 (by decide)
  have c1 := pr 1 (by decide)
  have c2 := pr 2 (by decide)
  have c3 := pr 3 (by decide)
  have c4 := pr 4 (by decide)
  have eL : fscL a n = [hiW (a 0 * n), loW (a 0 * n), hiW (a 1 * n), loW (a 1 * n), hiW (a 2 * n), loW (a 2 * n), hiW (a 3 * n), loW (a 3 * n), hiW (a 4 * n), loW (a 4 * n)] := by
    simp only [fscL, n0_eq]
  rw [eL]
  obtain ⟨f1, q, f2⟩ := fold_spec (la := [hiW (a 0 * n), loW (a 0 * n), hiW (a 1 * n), loW (a 1 * n), hiW (a 2 * n), loW (a 2 * n), hiW (a 3 * n), loW (a 3 * n), hiW (a 4 * n), loW (a 4 * n)]) (T0 := a 0 * n) (T1 := a 1 * n) (T2 := a 2 * n) (T3 := a 3 * n) (T4 := a 4 * n) (fun i hi => by
    match i, hi with
    | 0, _ => exact (hilo c0.1).1
    | 1, _ => exact (hilo c0.1).2
    | 2, _ => exact (hilo c1.1).1
    | 3, _ => exact (hilo c1.1).2
    | 4, _ => exact (hilo c2.1).1
    | 5, _ => exact (hilo c2.1).2
    | 6, _ => exact (hilo c3.1).1
    | 7, _ => exact (hilo c3.1).2
    | 8, _ => exact (hilo c4.1).1
    | 9, _ => exact (hilo c4.1).2) (jW_eq c0.1 (by omega)) (jW_eq c1.1 (by omega)) (jW_eq c2.1 (by omega)) (jW_eq c3.1 (by omega)) (jW_eq c4.1 (by omega)) (by omega) (by omega) (by omega) (by omega) (by omega)
  refine ⟨f1, q, ?_⟩
  rw [f2, fscl_ring]
  rfl
end Go.Vx
