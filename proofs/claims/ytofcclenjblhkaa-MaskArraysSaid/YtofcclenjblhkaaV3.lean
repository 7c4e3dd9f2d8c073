/- A symbolic executor over the model's code, and that it is sound, part 3: lemmas for the proofs of this seat, no statement of their own. No conditions. -/
import Derived.Test.YtofcclenjblhkaaV2
import Derived.WalkKit
import Derived.OpenShut
import Derived.JoinedCond
import Derived.Carry
import Derived.ChangeSlices
import Derived.SizedLaws

set_option linter.unusedVariables false
namespace Go.Vx

/-! ### canonical runs -/
section
noncomputable section
def mkB (B : List Body) : Heap := ⟨addAll B 0 .lf, B.length⟩

def upto : Nat → List Nat
  | 0 => []
  | n + 1 => upto n ++ [n]

/-- a function, from chunks under 0, 1, ..; new: the chunks that it hands back -/
def runF (g : Ctx) (n : Nat) (pl : List Plan) (f : FuncId) (args : List SV) (B : List Body) (new : List Nat) : Option (SV × List (Option Body) × List Prop) :=
  let ids := upto B.length ++ new
  match callOf g (exec g (LoopGood g) n) f args (mkB B) pl with
  | some (v, H, _, C) => some (mapC (idx ids) v, ids.map fun id => (hget H id).map (mapB (idx ids)), C)
  | none => none

/-- a piece of code -/
def runC (g : Ctx) (n nT : Nat) (pl : List Plan) (c : Code) (S : List (Nat × SV)) (B : List Body) (keep ids : List Nat) : Option (Ex × List SV × List (Option Body) × List Prop) :=
  match exec g (LoopGood g) n nT pl c (mkT S) (mkB B) with
  | some ⟨e, T, H, _, C⟩ => some (e, keep.map fun t => mapC (idx ids) (tget T t), ids.map fun id => (hget H id).map (mapB (idx ids)), C)
  | none => none
end
end

/-- good in every world that has the variables -/
def SumU (g : Ctx) (f : FuncId) (σ : Sum) : Prop := ∀ w0 O, GlobOk g w0 O → SumOk g.P w0 O f σ
def CtxU (g : Ctx) : Prop := ∀ w0 O, GlobOk g w0 O → CtxOk g w0 O

theorem CtxU.mk {g : Ctx} (hs : ∀ f σ, g.sum f = some σ → SumU g f σ) (hm : g.P.follows .mixedOrders = true)
    (hn : ∀ (f : FuncId) (fn : Func) (c : Code), g.P.funcs[f]? = some fn → fn.body = some c → (fn.name == "runtime.NumGoroutine") = false) : CtxU g :=
  fun _ _ hG => ⟨hG, fun f σ h => hs f σ h _ _ hG, hm, hn⟩

/-- the chunks behind a call -/
def afterH (B : List Body) (out : OpOut) : Nat → Option Body := newH (BH B) B.length out

/-- a function's account, the chunks under 0, 1, .. -/
def FnOk (g : Ctx) (f : FuncId) (args : List SV) (B : List Body) (out : OpOut) : Prop :=
  ∀ w0 O, GlobOk g w0 O → ∀ ρ Φ vs w, DenT w0 O ρ args vs → RelH w0 O ρ (BH B) w Φ → (∀ j, B.length ≤ j → ρ j = none) →
    CallR g.P f vs.toArray w (fun u w' => ∃ ρ' Φ', DenV w0 O ρ' out.val u ∧ (∀ j h, ρ j = some h → ρ' j = some h) ∧ (∀ j, B.length + out.new.length ≤ j → ρ' j = none) ∧ RelH w0 O ρ' (afterH B out) w' Φ')

theorem upto_get : ∀ (n j : Nat), (upto n)[j]? = if j < n then some j else none
  | 0, j => by simp [upto]
  | n + 1, j => by
    have hl : ∀ n, (upto n).length = n := fun n => by induction n with | zero => rfl | succ n ih => simp [upto, ih]
    simp only [upto, List.getElem?_append, hl, upto_get n]
    by_cases h : j < n
    · rw [if_pos h, if_pos h, if_pos (by omega)]
    · rw [if_neg h]
      by_cases h2 : j = n
      · subst h2; simp
      · rw [if_neg (by omega)]
        rw [show j - n = (j - n - 1) + 1 by omega]; simp
theorem upto_length : ∀ n, (upto n).length = n
  | 0 => rfl
  | n + 1 => by simp [upto, upto_length n]

theorem hget_mkB {B : List Body} (h : B.length < 65535) : hget (mkB B) = BH B := by
  have := hget_addAll B 0 .lf (by omega)
  funext j
  show (fun i => Tr.get none (addAll B 0 Tr.lf) i) j = _
  rw [this, newAll_get]
  by_cases hj : j < B.length
  · rw [if_pos (by omega)]; simp [BH]
  · rw [if_neg (by omega)]; simp [Tr.get_lf, BH, List.getElem?_eq_none (Nat.le_of_not_lt hj)]

section
variable {g : Ctx} {w0 : World} {O : Own} {ρ : Rho} {w : World} {Φ : Nat → Foot}

theorem relH_funext {H H' : Nat → Option Body} (h : ∀ j, H j = H' j) (x : RelH w0 O ρ H w Φ) : RelH w0 O ρ H' w Φ := by
  rw [show H' = H from funext fun j => (h j).symm]; exact x

theorem updAll_far : ∀ (u : List (Nat × Option Body)) (H : Nat → Option Body) {j : Nat}, (∀ y ∈ u, y.1 ≠ j) → updAll u H j = H j
  | [], H, j, _ => rfl
  | y :: u, H, j, h => by
    simp only [updAll]
    rw [updAll_far u _ fun z hz => h z (by simp [hz])]
    unfold upH
    rw [if_neg (fun e => h y (by simp) e.symm)]

theorem FnOk.run {f : FuncId} {args : List SV} {B : List Body} {out : OpOut} (hU : CtxU g) {n : Nat} {pl : List Plan} {new : List Nat} {L : List (Option Body)} {C : List Prop}
    (h : runF g n pl f args B new = some (out.val, L, C)) (hC : AllC C) (hnd : (upto B.length ++ new).Nodup) (hn : new.length = out.new.length) (hB : B.length < 65535)
    (hu : ∀ y ∈ out.upd, y.1 < B.length) (hL : ∀ j, j < B.length + out.new.length → (L[j]?).getD none = afterH B out j) : FnOk g f args B out := by
  intro w0 O hG ρ Φ vs w hd x hr
  unfold runF at h
  simp only at h
  generalize hids : upto B.length ++ new = ids at h hnd
  have hlen : ids.length = B.length + out.new.length := by rw [← hids, List.length_append, upto_length, hn]
  split at h
  · rename_i v H' pl' C' hcall
    simp only [Option.some.injEq, Prod.mk.injEq] at h
    obtain ⟨hv, hb, rfl⟩ := h
    obtain ⟨q1, q2⟩ := callOf_ok (hU w0 O hG) (exec_ok (hU w0 O hG) n) _ _ _ _ _ _ _ _ hcall hC
    rw [← hget_mkB hB] at x
    refine (q2 ρ Φ vs w hd x (fun id hid _ => hr id hid)).mono fun u w' ⟨ρ', Φ', p1, p2, p3, p4⟩ => ?_
    refine ⟨inR ρ' ids, inF Φ' ids, ?_, fun j h hj => ?_, fun j hj => ?_, ?_⟩
    · rw [← hv]; exact denV_map (inR_idx ρ' ids) p1
    · have hjl : j < B.length := by
        rcases Nat.lt_or_ge j B.length with e | e
        · exact e
        · rw [hr j e] at hj; simp at hj
      have : ids[j]? = some j := by rw [← hids, List.getElem?_append_left (by rw [upto_length]; exact hjl), upto_get, if_pos hjl]
      simp [inR, this, p2 j h hj]
    · simp [inR, List.getElem?_eq_none (show ids.length ≤ j by omega)]
    · refine relH_funext (fun j => ?_) (relH_ren p4 hnd)
      rcases Nat.lt_or_ge j ids.length with hj | hj
      · rw [← hL j (by omega), ← hb, List.getElem?_map]
        unfold renH
        rw [List.getElem?_eq_getElem hj]; simp
      · unfold renH afterH newH
        rw [List.getElem?_eq_none hj, newAll_get, if_neg (by omega)]
        simp only [Option.bind_none, Option.map_none]
        rw [updAll_far out.upd (BH B) (fun y hy => by have := hu y hy; omega)]
        simp [BH, List.getElem?_eq_none (show B.length ≤ j by omega)]
  · simp at h

/-! ### pieces of code -/
theorem SimC.run {nT n m : Nat} {pl : List Plan} {c : Code} {S : List (Nat × SV)} {B B' : List Body} {keep ids : List Nat} {e : Ex} {vals : List SV} {C : List Prop} (hU : CtxU g) (hn : nT < 65535)
    (h : runC g n nT pl c S B keep ids = some (e, vals, B'.map some, C)) (hC : AllC C) (hnd : ids.Nodup) (hm : ∀ j, j < m → ids[j]? = some j) (hk : ∀ k ∈ keep, k < 65535) (hB : B.length < 65535) (hG : GlobOk g w0 O) :
    SimC g.P w0 O nT c S B e (keep.zip vals) B' m := by
  intro ρ Φ a w r hr
  unfold runC at h
  split at h
  · rename_i e1 T H1 pl1 C1 hx
    simp only [Option.some.injEq, Prod.mk.injEq] at h
    obtain ⟨rfl, hv, hb, rfl⟩ := h
    obtain ⟨s1, s2⟩ := exec_ok (hU w0 O hG) n _ _ _ _ _ _ hn hx hC
    rw [← hget_mkB hB] at r
    refine wpL_mono (s2 ρ Φ a w r fun id hid _ => hr id hid) fun e' a' w' ⟨he, ρ', Φ', q1, q2, q3⟩ => ⟨he, inR ρ' ids, inF Φ' ids, fun j h hj hh => ?_, fun j hj => ?_, q3.size, q3.defers, fun t => ?_, ?_⟩
    · simp [inR, hm j hj, q1 j h hh]
    · have : ids.length = B'.length := by have := congrArg List.length hb; simpa using this
      simp [inR, List.getElem?_eq_none (show ids.length ≤ j by omega)]
    · have hz : ∀ y ∈ keep.zip vals, y.1 < 65535 ∧ y.2 = mapC (idx ids) (tget T y.1) := fun y hy => by
        rw [← hv] at hy
        rw [List.mem_iff_getElem?] at hy
        obtain ⟨i, hi⟩ := hy
        rw [List.getElem?_zip_eq_some] at hi
        obtain ⟨i1, i2⟩ := hi
        refine ⟨hk _ (List.mem_of_getElem? i1), ?_⟩
        rw [List.getElem?_map, i1] at i2
        simpa using i2.symm
      rcases tget_mkT _ t fun y hy => (hz y hy).1 with e | ⟨y, h1, h2, h3⟩
      · rw [e]; exact .inl rfl
      · rw [h3, (hz y h1).2, h2]
        exact denV_map (inR_idx ρ' ids) (q3.tmps t)
    · refine relH_funext (fun j => ?_) (relH_ren q3.heap hnd)
      unfold renH BH
      have := congrArg (fun l => l[j]?) hb
      simp only [List.getElem?_map] at this
      cases hj : ids[j]? with
      | none =>
        rw [hj] at this
        cases hb' : B'[j]? with
        | none => rfl
        | some b => rw [hb'] at this; simp at this
      | some id =>
        rw [hj] at this
        cases hb' : B'[j]? with
        | none => rw [hb'] at this; simp at this
        | some b => rw [hb'] at this; simpa using this
  · simp at h

theorem SimC.next {nT m m' : Nat} {c : Code} {S S1 S2 : List (Nat × SV)} {B B1 B2 : List Body} {e : Ex} (hm : m' ≤ m) (h1 : SimC g.P w0 O nT c S B .normal S1 B1 m) (h2 : SimC g.P w0 O nT (.loop c) S1 B1 e S2 B2 m') : SimC g.P w0 O nT (.loop c) S B e S2 B2 m' := by
  intro ρ Φ a w r hr
  show LoopWp _ _ _ _ _
  refine LoopWp.round (wp_mono (wpL_wp (h1 ρ Φ a w r hr)) fun e' a' w' ⟨he, ρ', Φ', q1, q2, q3⟩ => ?_)
  subst he
  have hy : LoopWp g.P c _ a' w' := h2 ρ' Φ' a' w' q3 q2
  intro b k cs
  obtain ⟨e2, a2, w2, ⟨he2, ρ2, Φ2, p1, p2, p3⟩, harr⟩ := hy b k cs
  exact ⟨e2, a2, w2, ⟨he2, ρ2, Φ2, fun j h hj hh => p1 j h hj (q1 j h (Nat.lt_of_lt_of_le hj hm) hh), p2, p3⟩, harr⟩

theorem SimC.done {nT m : Nat} {c : Code} {S S1 : List (Nat × SV)} {B B1 : List Body} {e : Ex} (h1 : SimC g.P w0 O nT c S B e S1 B1 m) (he : e ≠ .normal) : SimC g.P w0 O nT (.loop c) S B e S1 B1 m := by
  intro ρ Φ a w r hr
  show LoopWp _ _ _ _ _
  refine LoopWp.round (wp_mono (wpL_wp (h1 ρ Φ a w r hr)) fun e' a' w' h => ?_)
  obtain ⟨e1, hd⟩ := h
  subst e1
  cases e with
  | normal => exact absurd rfl he
  | exit i => exact ⟨rfl, hd⟩
  | ret => exact ⟨rfl, hd⟩

/-- fewer slots are told of -/
theorem SimC.weaken {nT m : Nat} {c : Code} {S S1 S1' : List (Nat × SV)} {B B1 : List Body} {e : Ex} (h1 : SimC g.P w0 O nT c S B e S1 B1 m) (h : ∀ t, tget (mkT S1') t = tget (mkT S1) t ∨ tget (mkT S1') t = .any) : SimC g.P w0 O nT c S B e S1' B1 m :=
  fun ρ Φ a w r hr => wpL_mono (h1 ρ Φ a w r hr) fun _ _ _ ⟨he, ρ', Φ', q1, q2, q3⟩ => ⟨he, ρ', Φ', q1, q2, q3.sub h⟩


/-! ### calls -/
mutual
theorem closedC_back {ids : List Nat} (nx : Nat) : ∀ (c : SV), closedC ids c = true → mapC (backS ids nx) (mapC (idx ids) c) = c
  | .any, _ => by simp [mapC]
  | .bool _, _ => by simp [mapC]
  | .sbool _, _ => by simp [mapC]
  | .lit _ _, _ => by simp [mapC]
  | .int _ _, _ => by simp [mapC]
  | .raw _, _ => by simp [mapC]
  | .ptr id off, h => by
    simp only [closedC] at h
    obtain ⟨j, hj⟩ := Option.isSome_iff_exists.1 h
    simp only [mapC, hj, backS, idx_spec hj]
  | .sptr id m i sz o, h => by
    simp only [closedC] at h
    obtain ⟨j, hj⟩ := Option.isSome_iff_exists.1 h
    simp only [mapC, hj, backS, idx_spec hj]
  | .sl id m off sz o len k, h => by
    simp only [closedC] at h
    obtain ⟨j, hj⟩ := Option.isSome_iff_exists.1 h
    simp only [mapC, hj, backS, idx_spec hj]
  | .own id, h => by
    simp only [closedC] at h
    obtain ⟨j, hj⟩ := Option.isSome_iff_exists.1 h
    simp only [mapC, hj, backS, idx_spec hj]
  | .ro sz n f, _ => by simp [mapC]
  | .roi k l, _ => by simp [mapC]
  | .rop v, _ => by simp [mapC]
  | .agg cs, h => by
    simp only [closedC] at h
    simp only [mapC, closedL_back nx cs h]
  | .tuple cs, h => by
    simp only [closedC] at h
    simp only [mapC, closedL_back nx cs h]
  | .func f a b, h => by
    simp only [closedC, Bool.and_eq_true] at h
    simp only [mapC, closedL_back nx a h.1, closedL_back nx b h.2]
theorem closedL_back {ids : List Nat} (nx : Nat) : ∀ (cs : List SV), closedL ids cs = true → mapL (backS ids nx) (mapL (idx ids) cs) = cs
  | [], _ => by simp [mapL]
  | c :: cs, h => by
    simp only [closedL, Bool.and_eq_true] at h
    simp only [mapL, closedC_back nx c h.1, closedL_back nx cs h.2]
end
theorem closedB_back {ids : List Nat} (nx : Nat) {b : Body} (h : closedB ids b = true) : mapB (backS ids nx) (mapB (idx ids) b) = b := by
  cases b <;> simp only [mapB]
  case cells cs => rw [closedL_back nx cs h]

theorem upd_back {ids : List Nat} (hnd : ids.Nodup) (f : Body → Body) : ∀ (u : List (Nat × Option Body)) (H Hc : Nat → Option Body), (∀ y ∈ u, y.1 < ids.length) → (∀ j id, ids[j]? = some id → H id = (Hc j).map f) →
    (∀ j id, ids[j]? = some id → updAll (u.map fun y => (nthN ids y.1, y.2.map f)) H id = (updAll u Hc j).map f)
  | [], H, Hc, _, h => h
  | y :: u, H, Hc, hu, h => by
    simp only [List.map_cons, updAll]
    refine upd_back hnd f u _ _ (fun z hz => hu z (by simp [hz])) fun j id hj => ?_
    unfold upH
    have hy := hu y (by simp)
    have hn : nthN ids y.1 = ids[y.1] := by rw [nthN_spec, List.getElem?_eq_getElem hy]; rfl
    by_cases e : j = y.1
    · subst e
      rw [List.getElem?_eq_getElem hy] at hj
      simp at hj
      rw [if_pos (by rw [hn]; exact hj.symm), if_pos rfl]
    · rw [if_neg e, if_neg (fun e2 => e (nodup_inj hnd hj (by rw [e2, hn]; exact List.getElem?_eq_getElem hy)))]
      exact h j id hj

theorem SumU.mk {f : FuncId} {F : SumF} (h : ∀ args B out, F args B = some out → AllC out.C → FnOk g f args B out) : SumU g f (mkSum F) := by
  intro w0 O hG nx args H out hσ hC ρ Φ vs w hd x hf
  unfold mkSum at hσ
  simp only at hσ
  generalize hids : closeIds H 3 (refsL args []) = ids at hσ
  split at hσ
  · simp at hσ
  rename_i B hB
  split at hσ
  · simp at hσ
  rename_i r hF
  split at hσ
  · simp at hσ
  rename_i hck
  simp only [Bool.and_eq_true, List.all_eq_true, Nat.blt_eq] at hck
  obtain ⟨k1, k2, k3⟩ := hck
  have hnd := nodupB_spec k1
  simp only [Option.some.injEq] at hσ
  subst hσ
  simp only [List.length_map] at hf ⊢
  have hBl := (gather_spec hB).1
  have hHi : ∀ id ∈ ids, H id ≠ none := fun id hid e => by
    obtain ⟨j, hj⟩ := List.getElem?_of_mem hid
    have := (gather_spec hB).2 j
    rw [hj] at this
    simp only [Option.bind_some, e] at this
    have hj2 : j < ids.length := (List.getElem?_eq_some_iff.1 hj).1
    rw [List.getElem?_eq_getElem (by omega)] at this
    simp at this
  have hrho : ∀ id ∈ ids, ∃ h, ρ id = some h := fun id hid => by
    have := hHi id hid
    cases e : H id with
    | none => exact absurd e this
    | some b => obtain ⟨hd, q, _⟩ := x.holds id b e; exact ⟨hd, q⟩
  have hold : ∀ id ∈ ids, ¬ (nx ≤ id ∧ id < nx + r.new.length) := fun id hid ⟨a, b⟩ => by
    obtain ⟨h, hh⟩ := hrho id hid
    rw [hf id a b] at hh; simp at hh
  have xin := rel_in x hnd hHi
  rw [renH_gather hB] at xin
  have hfn := h _ _ _ hF hC w (inO O Φ ids) (glob_cong (O := O) rfl hG) (inR ρ ids) (inF Φ ids) vs w (denT_cong (O := O) (O1 := inO O Φ ids) rfl _ _ _ (denT_map (w0 := w0) (inR_idx ρ ids) _ _ hd)) xin (fun j hj => by
    simp only [List.length_map] at hj
    simp [inR, List.getElem?_eq_none (show ids.length ≤ j by omega)])
  refine hfn.mono fun u w' ⟨ρ2, Φ2, p0, p1, p2, p3⟩ => ?_
  simp only [List.length_map, hBl] at p2
  let src : Nat → Option Nat := fun id => match idx ids id with
    | some j => some j
    | none => if nx ≤ id ∧ id < nx + r.new.length then some (ids.length + (id - nx)) else none
  let ρ' : Rho := fun id => if nx ≤ id ∧ id < nx + r.new.length then ρ2 (ids.length + (id - nx)) else ρ id
  have src1 : ∀ {id j : Nat}, src id = some j → (ids[j]? = some id) ∨ (ids.length ≤ j ∧ j < ids.length + r.new.length ∧ id = nx + (j - ids.length)) := by
    intro id j hs
    simp only [src] at hs
    split at hs
    · rename_i j' hj'
      simp at hs; subst hs; exact .inl (idx_spec hj')
    · split at hs
      · simp at hs; subst hs
        exact .inr ⟨by omega, by omega, by omega⟩
      · simp at hs
  have hE : Ext ρ ρ' := fun id h hh => by
    simp only [ρ']
    split
    · rename_i hr; rw [hf id hr.1 hr.2] at hh; simp at hh
    · exact hh
  have old : ∀ {id j : Nat} {h : Hd}, ids[j]? = some id → ρ2 j = some h → ρ' id = some h := by
    intro id j h hj hh
    have hid := List.mem_of_getElem? hj
    obtain ⟨h0, q⟩ := hrho id hid
    have : inR ρ ids j = some h0 := by simp [inR, hj, q]
    have := p1 j h0 this
    rw [hh] at this
    simp only [ρ']
    rw [if_neg (hold id hid), q, this]
  have hback : ∀ j h id, ρ2 j = some h → backS ids nx j = some id → ρ' id = some h := by
    intro j h id hj hb
    unfold backS at hb
    split at hb
    · rename_i id' hid
      simp at hb; subst hb
      exact old hid hj
    · rename_i hn
      have hge : ids.length ≤ j := by simpa using hn
      simp at hb; subst hb
      have hjl : j < ids.length + r.new.length := by
        rcases Nat.lt_or_ge j (ids.length + r.new.length) with h | h
        · exact h
        · rw [p2 j h] at hj; simp at hj
      simp only [ρ']
      rw [if_pos (by omega), show ids.length + (nx + (j - ids.length) - nx) = j by omega, hj]
  have xout := rel_out (src := src) (back := backS ids nx) (ρ' := ρ') (H' := newH H nx { val := mapC (backS ids nx) r.val, upd := r.upd.map fun y => (nthN ids y.1, y.2.map (mapB (backS ids nx))), new := r.new.map (mapB (backS ids nx)), reads := ids, C := r.C }) x hHi p3 hE
    (by
      intro id id' j h1 h2
      rcases src1 h1 with a2 | ⟨a1, a2, a3⟩ <;> rcases src1 h2 with b2 | ⟨b1, b2, b3⟩
      · rw [a2] at b2; simpa using b2
      · rw [List.getElem?_eq_none b1] at a2; simp at a2
      · rw [List.getElem?_eq_none a1] at b2; simp at b2
      · omega)
    hback
    (by
      intro id j h hs hj
      rcases src1 hs with a2 | ⟨a1, a2, a3⟩
      · exact old a2 hj
      · subst a3
        simp only [ρ']
        rw [if_pos (by omega), show ids.length + (nx + (j - ids.length) - nx) = j by omega, hj])
    (by
      intro id j hs
      unfold newH afterH newH
      rw [newAll_get, newAll_get]
      simp only [List.length_map, hBl]
      rcases src1 hs with a2 | ⟨a1, a2, a3⟩
      · have hjl : j < ids.length := (List.getElem?_eq_some_iff.1 a2).1
        rw [if_neg (hold id (List.mem_of_getElem? a2)), if_neg (by omega)]
        refine upd_back hnd (mapB (backS ids nx)) r.upd H (BH (B.map (mapB (idx ids)))) k3 (fun j id hj => ?_) j id a2
        have hg := (gather_spec hB).2 j
        rw [hj] at hg
        simp only [Option.bind_some] at hg
        unfold BH
        rw [List.getElem?_map, hg]
        cases hb : B[j]? with
        | none => rfl
        | some b => simp only [Option.map_some]; rw [closedB_back nx (k2 b (List.mem_of_getElem? hb))]
      · rw [if_pos (by omega), if_pos (by omega)]
        rw [List.getElem?_map, show id - nx = j - ids.length by omega])
    (by
      intro id hs hm
      obtain ⟨j, hj⟩ := List.getElem?_of_mem hm
      have hij := idx_some hnd hj
      simp only [src, hij] at hs
      simp at hs)
    (by
      intro id hs hm
      have hij := idx_none hm
      simp only [src, hij] at hs
      unfold newH
      rw [newAll_get]
      simp only [List.length_map]
      split at hs
      · simp at hs
      · rename_i hr
        rw [if_neg hr]
        refine updAll_far _ H fun y hy e => hm ?_
        obtain ⟨z, hz, rfl⟩ := List.mem_map.1 hy
        have hzl := k3 z hz
        simp only at e
        rw [nthN_spec, List.getElem?_eq_getElem hzl] at e
        simp at e
        exact e ▸ List.getElem_mem hzl)
  refine ⟨ρ', outF src Φ Φ2, denV_cong (O := inO O Φ ids) (O1 := O) rfl (denV_map (w0 := w) (fun j h id a b => hback j h id a b) p0), hE, fun id hne => ?_, xout⟩
  simp only [ρ'] at hne
  split at hne
  · assumption
  · exact absurd rfl hne
end

end Go.Vx

namespace Go.Vx
open Go.ChangeShapes Go.WideShapes Go.RowKit

/-! ### plainer arguments -/
mutual
def normC : SV → SV
  | .lit k n => .int k n
  | .bool b => .sbool b
  | .agg cs => .agg (normL cs)
  | .tuple cs => .tuple (normL cs)
  | .any => .any
  | .sbool b => .sbool b
  | .int k n => .int k n
  | .raw v => .raw v
  | .ptr id off => .ptr id off
  | .sptr id m i sz j => .sptr id m i sz j
  | .sl id m off sz j len kn => .sl id m off sz j len kn
  | .own id => .own id
  | .ro sz n f => .ro sz n f
  | .roi k l => .roi k l
  | .rop v => .rop v
  | .func f a b => .func f a b
def normL : List SV → List SV
  | [] => []
  | c :: cs => normC c :: normL cs
end

section
variable {w0 : World} {O : Own} {ρ : Rho}
theorem normC_agg (c : SV) : isAggS (normC c) = isAggS c := by cases c <;> simp [normC, isAggS]
mutual
theorem denC_norm : ∀ (c : SV) (vs : List Value), DenC w0 O ρ c vs → DenC w0 O ρ (normC c) vs
  | .lit k n, _, x => by simpa [normC, DenC] using x
  | .bool b, _, x => by simpa [normC, DenC] using x
  | .agg cs, vs, x => by
    simp only [normC, DenC] at x ⊢
    exact denL_norm cs vs x
  | .tuple cs, vs, x => by
    simp only [normC, DenC] at x ⊢
    obtain ⟨arr, h1, h2⟩ := x
    exact ⟨arr, h1, denT_norm cs _ h2⟩
  | .any, _, x => by simpa only [normC] using x
  | .sbool _, _, x => by simpa only [normC] using x
  | .int _ _, _, x => by simpa only [normC] using x
  | .raw _, _, x => by simpa only [normC] using x
  | .ptr _ _, _, x => by simpa only [normC] using x
  | .sptr .., _, x => by simpa only [normC] using x
  | .sl .., _, x => by simpa only [normC] using x
  | .own _, _, x => by simpa only [normC] using x
  | .ro .., _, x => by simpa only [normC] using x
  | .roi .., _, x => by simpa only [normC] using x
  | .rop _, _, x => by simpa only [normC] using x
  | .func .., _, x => by simpa only [normC] using x
theorem denL_norm : ∀ (cs : List SV) (vs : List Value), DenL w0 O ρ cs vs → DenL w0 O ρ (normL cs) vs
  | [], _, x => by simpa [normL, DenL] using x
  | c :: cs, vs, x => by
    simp only [normL, DenL] at x ⊢
    obtain ⟨v, r, h1, h2, h3, h4⟩ := x
    exact ⟨v, r, h1, denC_norm c _ h2, h3, denL_norm cs r h4⟩
theorem denT_norm : ∀ (cs : List SV) (vs : List Value), DenT w0 O ρ cs vs → DenT w0 O ρ (normL cs) vs
  | [], _, x => by simpa [normL, DenT] using x
  | c :: cs, vs, x => by
    simp only [normL, DenT] at x ⊢
    obtain ⟨v, r, h1, h2, h3⟩ := x
    refine ⟨v, r, h1, ?_, denT_norm cs r h3⟩
    rcases h2 with rfl | ⟨e1, e2⟩
    · left; simp [normC]
    · right; exact ⟨(normC_agg c).trans e1, denC_norm c _ e2⟩
end

theorem FnOk.args {g : Ctx} {f : FuncId} {args args' : List SV} {B : List Body} {out : OpOut} (h : FnOk g f args' B out) (hd : ∀ w0 O ρ vs, DenT w0 O ρ args vs → DenT w0 O ρ args' vs) : FnOk g f args B out :=
  fun w0 O hG ρ Φ vs w d x hr => h w0 O hG ρ Φ vs w (hd _ _ _ _ d) x hr
theorem FnOk.norm {g : Ctx} {f : FuncId} {args : List SV} {B : List Body} {out : OpOut} (h : FnOk g f (normL args) B out) : FnOk g f args B out := h.args fun _ _ _ _ d => denT_norm _ _ d

/-- another account of the same value -/
theorem FnOk.val {g : Ctx} {f : FuncId} {args : List SV} {B : List Body} {v v' : SV} {upd : List (Nat × Option Body)} {new : List Body} {rd rd' : List Nat} {C C' : List Prop} (h : FnOk g f args B { val := v, upd, new, reads := rd, C }) (hv : ∀ w0 O ρ u, DenV w0 O ρ v u → DenV w0 O ρ v' u) :
    FnOk g f args B { val := v', upd, new, reads := rd', C := C' } :=
  fun w0 O hG ρ Φ vs w d x hr => (h w0 O hG ρ Φ vs w d x hr).mono fun _ _ ⟨ρ', Φ', q1, q2, q3, q4⟩ => ⟨ρ', Φ', hv _ _ _ _ q1, q2, q3, q4⟩

/-- a summary that looks at plain arguments -/
noncomputable def mkSumN (F : SumF) : Sum := mkSum fun args B => F (normL args) B
theorem SumU.mkN {g : Ctx} {f : FuncId} {F : SumF} (h : ∀ args B out, F args B = some out → AllC out.C → FnOk g f args B out) : SumU g f (mkSumN F) :=
  SumU.mk fun args B out hF hC => (h _ _ _ hF hC).norm

theorem CallR.calls {P : Program} {f : FuncId} {vs : Array Value} {w : World} {R : Value → World → Prop} {fn : Func} (h : CallR P f vs w R) (hf : P.funcs[f]? = some fn) (hb : fn.body.isNone = false) (hn : (fn.name == "runtime.NumGoroutine") = false) :
    Calls P f vs w (fun e w' => ∃ v, e = .returned v ∧ R v w') := by
  rcases h with ⟨_, _, _, _, h⟩ | ⟨v, w', h, _⟩
  · exact h
  · have n1 : ¬ fn.name = "runtime.NumGoroutine" := by simpa using hn
    have n2 : ¬ fn.body = none := by intro e; rw [e] at hb; simp at hb
    simp [callFunc, hf, n1, n2] at h

/-! ### from a law's account to its statement -/
/-- all that is there stands as it does -/
def O0 (W : World) : Own := ⟨fun _ _ => False, fun b o v => W.cell? (adr b o) = some v⟩

theorem frame_below {W w' : World} (h : Frame W (O0 W) w') : Below W.heap.size W w' := by
  refine ⟨h.os, h.tape, h.output, h.size, fun k hk => ?_⟩
  have hb := h.block k hk
  cases e : W.heap[k]? with
  | none => rw [e] at hb; simpa [Kept] using hb
  | some ob =>
    rw [e] at hb
    cases ob
    case cells c t fr =>
      obtain ⟨c', f', e1, e2, e3, e4, _⟩ := hb
      have : f' = fr := e4 fun j => id
      subst this
      rw [e1]
      congr 2
      apply Array.ext_getElem?
      intro j
      exact e3 j fun h => h
    all_goals simpa [Kept] using hb

theorem top_law {g : Ctx} {f : FuncId} {fn : Func} {args : List SV} {out : OpOut} (h : FnOk g f args [] out) (hv : out.val = .bool true ∨ out.val = .sbool true) (W : World) (hG : GlobOk g W (O0 W))
    (hf : g.P.funcs[f]? = some fn) (hb : fn.body.isNone = false) (hn : (fn.name == "runtime.NumGoroutine") = false) {vs : Array Value} (hd : DenT W (O0 W) (fun _ => none) args vs.toList) :
    Calls g.P f vs W fun e W' => e = .returned (.bool true) ∧ Below W.heap.size W W' := by
  have x : RelH W (O0 W) (fun _ => none) (BH []) W (fun _ _ _ => False) :=
    ⟨Frame.refl _ _ (fun _ _ _ h => h.elim) (fun b o v h => ⟨h, fun h => h⟩), fun id bd h => by simp [BH] at h, fun _ _ _ _ _ h => by simp [BH] at h, fun id b o h => by simp [BH] at h⟩
  have hc := h W (O0 W) hG _ _ vs.toList W hd x fun _ _ => rfl
  refine (hc.calls hf hb hn).mono fun e W' ⟨v, he, ρ', Φ', q1, _, _, q4⟩ => ?_
  have : v = .bool true := by
    rcases hv with e | e
    · rw [e] at q1; exact denV_bool (l := true) (b := true) q1 rfl
    · rw [e] at q1; exact denV_bool (l := false) (b := true) q1 rfl
  subst this
  exact ⟨he, frame_below q4.frame⟩

section
variable {H : Type} {enc : TypeId × Value → H} {P : Program}

theorem post_of_below {f : Func} {s : ChangeSpec} {apart fresh handsOn again : Bool} {W W' : World} {args : Array Value} {v : Value} {ds gs : List (DataW H)} {before pa pv : List MemPlace}
    (hW : DataW.Whole enc P f.params.toList s.vars apart W args.toList ds gs before)
    (hres : ∀ (b : Nat) (sp : Nat → Bool) (hd : Bool), DataW.TrodAll enc P W' b sp hd f.resultTypes.toList (v.resultList f.resultTypes.size) (s.fn H (ds ++ gs)).results [])
    (hargs : ∀ sp : Nat → Bool, (∀ p ∈ before, sp p.block = true) → DataW.TrodAll enc P W' 0 sp true f.params.toList args.toList (s.fn H (ds ++ gs)).args pa)
    (hvars : ∀ sp : Nat → Bool, (∀ p ∈ before, sp p.block = true) → DataW.TrodVars enc P W' sp s.vars (s.fn H (ds ++ gs)).vars pv)
    (hps : before = pa ++ pv) (hb : Below W.heap.size W W')
    (hok : ∀ (j : Nat) (t : TypeId) (r : Value), f.resultTypes[j]? = some t → (v.resultList f.resultTypes.size)[j]? = some r → Value.okWide P W' .any 0 t r) :
    s.post enc P f apart fresh handsOn again W args v W' := by
  have hlt : ∀ p ∈ before, p.block < W.heap.size := fun p hp => hW.lt p hp
  have hold : ∀ p ∈ before, (fun b => decide (b < W.heap.size)) p.block = true := fun p hp => by simpa using hlt p hp
  refine ⟨ds, gs, before, [], pa, pv, hW, hres _ _ _, hargs _ hold, hvars _ hold, World.keptBut_mono (fun p hp => ⟨hp, ?_⟩) (hb.frame (· ∈ before)), fun _ => ?_⟩
  · rw [hps, List.mem_append] at hp
    exact Or.inr hp
  · obtain ⟨_, _, _, _, _, hz, hn⟩ := hW
    refine ⟨hok, _, _, ([] ++ pa) ++ pv, ⟨[] ++ pa, pv, trodAll_append (hargs _ (fun _ _ => rfl)) (hres _ _ _), hvars _ (fun _ _ => rfl), rfl, ?_, ?_⟩, ?_⟩
    · intro b off hp
      have hin : MemPlace.cell b off ∈ before := by rw [hps]; simpa using hp
      rw [hb.frozen (hlt _ hin)]
      exact hz b off hin
    · intro ha
      have := hn ha
      rw [hps] at this
      simpa using this
    · intro p hp _
      rw [hps]
      simpa using hp

theorem trodAll_below (hl : laidOutB P = true) {W W' : World} (hb : Below W.heap.size W W') {sp : Nat → Bool} : ∀ (ts : List TypeId) (vs : List Value) (ds : List (DataW H)) (ps : List MemPlace), (∀ t ∈ ts, P.readableRec t = true ∧ t < P.types.size) → (∀ p ∈ ps, sp p.block = true) → (∀ p ∈ ps, p.block < W.heap.size) →
    DataW.TrodAll enc P W 0 (fun _ => true) true ts vs ds ps → DataW.TrodAll enc P W' 0 sp true ts vs ds ps
  | [], [], [], ps, _, _, _, h => h
  | t :: ts, v :: vs, d :: ds, ps, ht, hs, hlt, h => by
    obtain ⟨p, q, h1, h2, rfl⟩ := h
    refine ⟨p, q, ?_, trodAll_below hl hb ts vs ds q (fun t h => ht t (by simp [h])) (fun y hy => hs y (by simp [hy])) (fun y hy => hlt y (by simp [hy])) h2, rfl⟩
    obtain ⟨r1, r2⟩ := ht t (by simp)
    exact WideElems.Trod_stays hl r1 r2 h1 (fun x hx => hb.same (hlt x (by simp [hx]))) (fun x hx => hs x (by simp [hx]))

theorem law_post (hl : laidOutB P = true) {f : Func} {s : ChangeSpec} {apart fresh handsOn again : Bool} {W W' : World} {args : Array Value} {ds gs : List (DataW H)} {before : List MemPlace} {tb : TypeId}
    (hW : DataW.Whole enc P f.params.toList s.vars apart W args.toList ds gs before) (hvars : s.vars = []) (hres : f.resultTypes = #[tb]) (htb : P.underlying tb = some .bool)
    (hts : ∀ t ∈ f.params.toList, P.readableRec t = true ∧ t < P.types.size) (hfn : ds.length = f.params.size → s.fn H ds = { results := [.lit (.bool true)], args := ds }) (hb : Below W.heap.size W W') :
    s.post enc P f apart fresh handsOn again W args (.bool true) W' := by
  obtain ⟨p, q, hA, hV, rfl, hfz, hnd⟩ := id hW
  rw [hvars] at hV
  obtain ⟨rfl, rfl⟩ := trodVars_none hV
  have hlen : ds.length = f.params.size := by
    have : ∀ (ts : List TypeId) (vs : List Value) (ds : List (DataW H)) (ps : List MemPlace), DataW.TrodAll enc P W 0 (fun _ => true) true ts vs ds ps → ds.length = ts.length := by
      intro ts
      induction ts with
      | nil => intro vs ds ps h; cases vs <;> cases ds <;> simp [DataW.TrodAll] at h ⊢
      | cons t ts ih =>
        intro vs ds ps h
        cases vs with
        | nil => cases ds <;> simp [DataW.TrodAll] at h
        | cons v vs =>
          cases ds with
          | nil => simp [DataW.TrodAll] at h
          | cons d ds => obtain ⟨p, q, _, h2, _⟩ := h; simp [ih _ _ _ h2]
    simpa using this _ _ _ _ hA
  have hf := hfn hlen
  have hlt : ∀ y ∈ p, y.block < W.heap.size := fun y hy => hW.lt y (by simpa using hy)
  refine post_of_below (pa := p) (pv := []) hW ?_ ?_ ?_ (by simp) hb ?_
  · intro b sp hd
    rw [List.append_nil, hf, hres]
    exact trodAll_cons_mk (shut_bool htb _) trodAll_mk0
  · intro sp hs
    rw [List.append_nil, hf]
    exact trodAll_below hl hb _ _ _ _ hts (fun y hy => hs y (by simpa using hy)) hlt hA
  · intro sp _
    rw [List.append_nil, hf, hvars]
    exact rfl
  · exact ok_one hres rfl (okWide_bool_mk htb _)
end
end

end Go.Vx

namespace Go.Vx
open Go.ChangeShapes Go.WideShapes Go.RowKit

/-! ### arguments, opened -/
/-- cells of these kinds that hold the numbers a i, a (i + 1), .. -/
def svF : List IntKind → (Nat → Int) → Nat → List SV
  | [], _, _ => []
  | k :: ks, a, i => .int k (a i) :: svF ks a (i + 1)

theorem svF_length : ∀ (ks : List IntKind) (a : Nat → Int) (i : Nat), (svF ks a i).length = ks.length
  | [], _, _ => rfl
  | k :: ks, a, i => by simp [svF, svF_length ks]
theorem svF_get : ∀ (ks : List IntKind) (a : Nat → Int) (i j : Nat), (svF ks a i)[j]? = (ks[j]?).map fun k => .int k (a (i + j))
  | [], _, _, j => by simp [svF]
  | k :: ks, a, i, 0 => by simp [svF]
  | k :: ks, a, i, j + 1 => by simp [svF, svF_get ks a (i + 1) j, show i + 1 + j = i + (j + 1) by omega]

def FlatOk (ks : List IntKind) (cs : List Value) : Prop := cs.length = ks.length ∧ ∀ (i : Nat) (k : IntKind), ks[i]? = some k → ∃ n, cs[i]? = some (.int k n) ∧ Fits k n

theorem FlatOk.append {ks ks' : List IntKind} {cs cs' : List Value} (h : FlatOk ks cs) (h' : FlatOk ks' cs') : FlatOk (ks ++ ks') (cs ++ cs') := by
  refine ⟨by simp [h.1, h'.1], fun i k hk => ?_⟩
  by_cases hi : i < ks.length
  · rw [List.getElem?_append_left hi] at hk
    obtain ⟨n, h1, h2⟩ := h.2 i k hk
    exact ⟨n, by rw [List.getElem?_append_left (by rw [h.1]; exact hi)]; exact h1, h2⟩
  · rw [List.getElem?_append_right (by omega)] at hk
    obtain ⟨n, h1, h2⟩ := h'.2 _ k hk
    exact ⟨n, by rw [List.getElem?_append_right (by rw [h.1]; omega), h.1]; exact h1, h2⟩

theorem fits_of_wf {k : IntKind} {n : Int} (h : (Lit.int k n).wf = true) : Fits k n := by simpa [Lit.wf, Fits] using h

section
variable {H : Type} {enc : TypeId × Value → H} {P : Program} {w : World} {base : Nat} {spare : Nat → Bool} {held : Bool}

theorem mapM_got {α β : Type} {f : α → Option β} : ∀ {l : List α} {r : List β}, l.mapM f = some r → r.length = l.length ∧ ∀ (i : Nat) (x : α), l[i]? = some x → ∃ y, r[i]? = some y ∧ f x = some y
  | [], r, h => by simp at h; subst h; simp
  | x :: l, r, h => by
    rw [List.mapM_cons] at h
    cases h1 : f x with
    | none => simp [h1] at h
    | some y =>
      cases h2 : l.mapM f with
      | none => simp [h1, h2] at h
      | some ys =>
        simp [h1, h2] at h; subst h
        obtain ⟨g1, g2⟩ := mapM_got h2
        refine ⟨by simp [g1], fun i z hz => ?_⟩
        cases i with
        | zero => simp at hz; subst hz; exact ⟨y, by simp, h1⟩
        | succ i => simp at hz; obtain ⟨y', q1, q2⟩ := g2 i z hz; exact ⟨y', by simpa using q1, q2⟩

theorem flat_chunks {ks : List IntKind} {cs : List Value} {sz : Nat} (hsz : ks.length = sz) : ∀ (n : Nat), (∀ i, i < n → FlatOk ks ((cs.drop (i * sz)).take sz)) → FlatOk (List.replicate n ks).flatten (cs.take (n * sz))
  | 0, _ => by simp [FlatOk]
  | n + 1, h => by
    have h1 := flat_chunks hsz n fun i hi => h i (by omega)
    have h2 := h n (by omega)
    have e1 : (List.replicate (n + 1) ks).flatten = (List.replicate n ks).flatten ++ ks := by
      rw [List.replicate_succ']; simp
    have e2 : cs.take ((n + 1) * sz) = cs.take (n * sz) ++ (cs.drop (n * sz)).take sz := by
      rw [Nat.succ_mul, List.take_add]
    rw [e1, e2]; exact h1.append h2

theorem trod_kinds : ∀ (d : Nat) (t : TypeId) (ks : List IntKind), kindsT P d t = some ks → ∀ (fuel : Nat) (cs : List Value) (x : DataW H × List MemPlace), DataW.trod enc P w base spare held fuel t cs = some x → FlatOk ks cs
  | 0, t, ks, h, _, _, _, _ => by simp [kindsT] at h
  | d + 1, t, ks, h, 0, _, _, hx => by simp [DataW.trod] at hx
  | d + 1, t, ks, h, fuel + 1, cs, x, hx => by
    simp only [kindsT] at h
    split at h
    · rename_i l hl
      split at h
      · rename_i hlen
        have hlen := Nat.eq_of_beq_eq_true hlen
        simp only [Option.some.injEq] at h; subst h
        split at hl
        · rename_i k hu
          simp only [Option.some.injEq] at hl; subst hl
          simp only [DataW.trod, hu] at hx
          split at hx <;> rename_i e <;> first | (simp at e; done) | skip
          all_goals first | (simp at hx; done) | skip
          simp only [Option.some.injEq, TypeDesc.int.injEq] at e
          subst e
          split at hx
          · rename_i hw
            refine ⟨rfl, fun i k' hk' => ?_⟩
            cases i with
            | zero => simp at hk'; subst hk'; exact ⟨_, by rw [hw.1]; rfl, fits_of_wf hw.2⟩
            | succ i => simp at hk'
          · simp at hx
        · rename_i n e hu
          split at hl
          · rename_i l0 hl0
            simp only [Option.some.injEq] at hl; subst hl
            simp only [DataW.trod, hu] at hx
            split at hx
            · rename_i hcs
              cases hm : (List.range n).mapM (fun i => DataW.trod enc P w base spare held fuel e ((cs.drop (i * P.cellsOf e)).take (P.cellsOf e))) with
              | none => simp [hm] at hx
              | some ys =>
                obtain ⟨_, g2⟩ := mapM_got hm
                have each : ∀ i, i < n → FlatOk l0 ((cs.drop (i * P.cellsOf e)).take (P.cellsOf e)) := fun i hi => by
                  obtain ⟨y, _, q⟩ := g2 i i (by simp [hi])
                  exact trod_kinds d e l0 hl0 fuel _ y q
                by_cases hn : n = 0
                · subst hn
                  simp only [List.replicate_zero, List.flatten_nil, List.length_nil] at hlen ⊢
                  exact ⟨by rw [hcs, ← hlen]; rfl, by simp⟩
                · have hsz := kindsT_len hl0
                  have := flat_chunks hsz n each
                  have e3 : cs.take (n * P.cellsOf e) = cs := List.take_of_length_le (by rw [hcs, ← hlen, ← hsz]; simp)
                  rwa [e3] at this
            · simp at hx
          · simp at hl
        · rename_i fs hu
          split at hl
          · rename_i n0 hnf ht
            split at hl
            · rename_i ls hls
              simp only [Option.some.injEq] at hl; subst hl
              simp only [DataW.trod, hu] at hx
              split at hx
              · rename_i hcs
                cases hm : fs.toList.mapM (fun f => DataW.trod enc P w base spare held fuel f.type ((cs.drop f.offset).take (P.cellsOf f.type))) with
                | none => simp [hm] at hx
                | some ys =>
                  obtain ⟨_, g2⟩ := mapM_got hm
                  obtain ⟨k1, k2⟩ := mapM_got hls
                  -- field by field
                  have key : ∀ (fl : List Field) (ll : List (List IntKind)) (n : Nat), tightFields P fl n = some n0 → ll.length = fl.length →
                      (∀ (i : Nat) (f : Field), fl[i]? = some f → ∃ l, ll[i]? = some l ∧ kindsT P d f.type = some l ∧ FlatOk l ((cs.drop f.offset).take (P.cellsOf f.type))) →
                      FlatOk ll.flatten ((cs.drop n).take ll.flatten.length) := by
                    intro fl
                    induction fl with
                    | nil =>
                      intro ll n _ hl _
                      have : ll = [] := by simpa using hl
                      subst this; simp [FlatOk]
                    | cons f fl ih =>
                      intro ll n htf hl hf
                      cases ll with
                      | nil => simp at hl
                      | cons l ll =>
                        simp only [tightFields] at htf
                        split at htf
                        · rename_i hoff
                          obtain ⟨l', h1, h2, h3⟩ := hf 0 f (by simp)
                          simp at h1; subst h1
                          rw [hoff] at h3
                          have hlen2 := kindsT_len h2
                          have hr := ih ll (n + P.cellsOf f.type) htf (by simpa using hl) fun i f' hf' => by
                            obtain ⟨l'', q1, q2⟩ := hf (i + 1) f' (by simpa using hf')
                            exact ⟨l'', by simpa using q1, q2⟩
                          have e : (cs.drop n).take (l :: ll).flatten.length = (cs.drop n).take (P.cellsOf f.type) ++ (cs.drop (n + P.cellsOf f.type)).take ll.flatten.length := by
                            rw [List.flatten_cons, List.length_append, hlen2, List.take_add, List.drop_drop]
                          rw [e, List.flatten_cons]
                          exact h3.append hr
                        · simp at htf
                  have := key fs.toList ls 0 hnf k1 fun i f hf => by
                    obtain ⟨y, _, q⟩ := g2 i f hf
                    obtain ⟨l, q1, q2⟩ := k2 i f hf
                    exact ⟨l, q1, q2, trod_kinds d f.type l q2 fuel _ y q⟩
                  rw [List.drop_zero, List.take_of_length_le (by rw [hcs, hlen]; exact Nat.le_refl _)] at this
                  exact this
              · simp at hx
            · simp at hl
          · simp at hl
        · simp at hl
      · simp at h
    · simp at h

theorem not_agg_cells {v : Value} (h : isAggV v = false) : v.cells.toList = [v] := by cases v <;> simp [isAggV] at h <;> rfl

/-- the numbers of cells -/
def numAt (cs : List Value) (i : Nat) : Int := match cs[i]? with | some (.int _ n) => n | _ => 0

theorem flat_den {w0 : World} {O : Own} {ρ : Rho} : ∀ {ks : List IntKind} {cs : List Value} {a : Nat → Int} {i : Nat}, cs.length = ks.length → (∀ (j : Nat) (k : IntKind), ks[j]? = some k → cs[j]? = some (.int k (a (i + j))) ∧ Fits k (a (i + j))) → DenL w0 O ρ (svF ks a i) cs
  | [], cs, a, i, hl, _ => by simp [svF, DenL]; simpa using hl
  | k :: ks, cs, a, i, hl, h => by
    cases cs with
    | nil => simp at hl
    | cons c cs =>
      simp only [svF, DenL]
      obtain ⟨h1, h2⟩ := h 0 k (by simp)
      simp at h1
      subst h1
      refine ⟨_, cs, rfl, by simp only [DenC]; exact ⟨trivial, h2⟩, rfl, flat_den (by simpa using hl) fun j k' hj => ?_⟩
      have := h (j + 1) k' (by simpa using hj)
      rw [show i + 1 + j = i + (j + 1) by omega]
      simpa using this

theorem FlatOk.den {w0 : World} {O : Own} {ρ : Rho} {ks : List IntKind} {cs : List Value} (h : FlatOk ks cs) : DenL w0 O ρ (svF ks (numAt cs) 0) cs ∧ ∀ (i : Nat) (k : IntKind), ks[i]? = some k → Fits k (numAt cs i) := by
  have each : ∀ (i : Nat) (k : IntKind), ks[i]? = some k → cs[i]? = some (.int k (numAt cs i)) ∧ Fits k (numAt cs i) := fun i k hk => by
    obtain ⟨n, h1, h2⟩ := h.2 i k hk
    have : numAt cs i = n := by simp [numAt, h1]
    rw [this]; exact ⟨h1, h2⟩
  exact ⟨flat_den h.1 fun j k hj => by rw [Nat.zero_add]; exact each j k hj, fun i k hk => (each i k hk).2⟩

theorem open_num {t : TypeId} {k : IntKind} {v : Value} {d : DataW H} {ps : List MemPlace} {r : Reach} {b0 : Nat} (ht : P.underlying t = some (.int k)) (hval : Value.okWide P w r b0 t v) (hd : DataW.Trod enc P w base spare held t v d ps) (w0 : World) (O : Own) (ρ : Rho) :
    ∃ n, Fits k n ∧ DenV w0 O ρ (.int k n) v := by
  obtain ⟨n, rfl, _, _, hw⟩ := open_int ht hval hd
  exact ⟨n, fits_of_wf hw, den_int (fits_of_wf hw)⟩

theorem open_flat {t : TypeId} {ks : List IntKind} {v : Value} {d : DataW H} {ps : List MemPlace} {r : Reach} {b0 : Nat} (hk : kindsT P 8 t = some ks) (ha : isAggT P t = true) (hval : Value.okWide P w r b0 t v) (hd : DataW.Trod enc P w base spare held t v d ps) (w0 : World) (O : Own) (ρ : Rho) :
    ∃ a : Nat → Int, (∀ (i : Nat) (k : IntKind), ks[i]? = some k → Fits k (a i)) ∧ DenV w0 O ρ (.agg (svF ks a 0)) v := by
  obtain ⟨fuel, hf⟩ := hd
  have hfl := trod_kinds 8 t ks hk fuel _ _ hf
  obtain ⟨h1, h2⟩ := hfl.den (w0 := w0) (O := O) (ρ := ρ)
  have hv : ∃ arr, v = .agg arr := by
    unfold isAggT at ha
    unfold Value.okWide at hval
    split at hval
    · obtain ⟨cs, e, _⟩ := hval; exact ⟨cs, e⟩
    · obtain ⟨cs, e, _⟩ := hval; exact ⟨cs, e⟩
    · rename_i h3 h4
      exfalso
      split at ha
      · exact h3 _ (by assumption)
      · exact h4 _ _ (by assumption)
      · simp at ha
  obtain ⟨arr, rfl⟩ := hv
  exact ⟨_, h2, den_agg h1⟩

/-- a slice of numbers -/
theorem open_slice {W : World} {t e : TypeId} {k : IntKind} {v : Value} {d : DataW H} {ps : List MemPlace} {r : Reach} {b0 : Nat} (ht : P.underlying t = some (.slice e)) (he : P.underlying e = some (.int k)) (hc : P.cellsOf e = 1)
    (hval : Value.okWide P W r b0 t v) (hd : DataW.Trod enc P W base spare held t v d ps) (ρ : Rho) :
    ∃ l : List Int, (∀ n ∈ l, Fits k n) ∧ l.length ≤ maxLen ∧ (d = .nil ∧ l = [] ∨ ∃ r, d = .slice (lits k l) r) ∧ DenV W (O0 W) ρ (.roi k l) v := by
  obtain ⟨fuel, hf⟩ := hd
  have hv : isAggV v = false := by
    unfold Value.okWide at hval
    rw [ht] at hval
    simp only at hval
    unfold Cell.okWide at hval
    rw [ht] at hval
    simp only at hval
    cases v <;> simp [isAggV]
    all_goals (simp [Cell.ok, ht] at hval)
  rw [not_agg_cells hv] at hf
  rcases open_ints ht he hc hf with ⟨h1, h2⟩ | ⟨a, len, cap, zs, h1, h2, h3, h4, h5, h6, h7, h8⟩
  · simp at h1; subst h1
    simp at h2
    refine ⟨[], by simp, Nat.zero_le _, .inl ⟨h2.1, rfl⟩, den_cell rfl rfl ?_⟩
    simp only [DenC]
    exact ⟨none, 0, rfl, by simp, by simp, by simp⟩
  · simp at h1; subst h1
    have hlen : len ≤ zs.length := by rw [h5]; split <;> omega
    simp only [Prod.mk.injEq] at h6
    refine ⟨zs.take len, fun n hn => fits_of_wf (h8 n (List.mem_of_mem_take hn)), by simp; omega, .inr ⟨_, h6.1⟩, den_cell rfl rfl ?_⟩
    simp only [DenC]
    have hl2 : (zs.take len).length = len := by simp; omega
    refine ⟨some a, cap, by rw [hl2], by omega, fun hpos => ?_, fun n hn => fits_of_wf (h8 n (List.mem_of_mem_take hn))⟩
    have hspot : a.spot = none := by
      have := h7 0 (by omega)
      have h9 : W.cell? (a.add 0) = _ := this
      unfold World.cell? at h9
      cases hs : a.spot with
      | none => rfl
      | some s =>
        have hsa : (a.add 0).spot.isSome = true := by
          unfold Addr.add; simp [hs]
        split at h9
        · rw [if_pos hsa] at h9; simp at h9
        · simp at h9
    obtain ⟨b, o, sp⟩ := a
    simp only at hspot; subst hspot
    refine ⟨b, o, rfl, fun j u hj => ?_⟩
    rw [List.getElem?_map, List.getElem?_take] at hj
    split at hj
    · rename_i hjl
      have := h7 j (by omega)
      have this : W.cell? ((adr b o).add j) = _ := this
      rw [adr_add] at this
      show W.cell? (adr b (o + j)) = some u
      rw [this]
      rw [List.getElem?_eq_getElem (by omega)] at hj
      simp at hj
      rw [← hj, List.getD_eq_getElem?_getD, List.getElem?_eq_getElem (by omega)]; rfl
    · simp at hj
end
end Go.Vx

namespace Go.Vx

/-! ### what is known of numbers because they are told of -/
mutual
def factsC : SV → Prop
  | .int k n => Fits k n
  | .lit k n => Fits k n
  | .agg cs => factsL cs
  | .tuple cs => factsL cs
  | .roi k l => ∀ n ∈ l, Fits k n
  | _ => True
def factsL : List SV → Prop
  | [] => True
  | c :: cs => factsC c ∧ factsL cs
end

section
variable {w0 : World} {O : Own} {ρ : Rho}
mutual
theorem denC_facts : ∀ (c : SV) (vs : List Value), DenC w0 O ρ c vs → factsC c
  | .lit k n, _, x => by simp only [DenC] at x; exact x.2
  | .int k n, _, x => by simp only [DenC] at x; exact x.2
  | .agg cs, vs, x => by simp only [DenC] at x; exact denL_facts cs vs x
  | .tuple cs, vs, x => by simp only [DenC] at x; obtain ⟨arr, _, h⟩ := x; exact denT_facts cs _ h
  | .roi k l, _, x => by simp only [DenC] at x; obtain ⟨_, _, _, _, _, h⟩ := x; exact h
  | .any, _, _ => trivial
  | .sbool _, _, _ => trivial
  | .bool _, _, _ => trivial
  | .raw _, _, _ => trivial
  | .ptr _ _, _, _ => trivial
  | .sptr .., _, _ => trivial
  | .sl .., _, _ => trivial
  | .own _, _, _ => trivial
  | .ro .., _, _ => trivial
  | .rop _, _, _ => trivial
  | .func .., _, _ => trivial
theorem denL_facts : ∀ (cs : List SV) (vs : List Value), DenL w0 O ρ cs vs → factsL cs
  | [], _, _ => trivial
  | c :: cs, vs, x => by
    simp only [DenL] at x
    obtain ⟨v, r, _, h2, _, h4⟩ := x
    exact ⟨denC_facts c _ h2, denL_facts cs r h4⟩
theorem denT_facts : ∀ (cs : List SV) (vs : List Value), DenT w0 O ρ cs vs → factsL cs
  | [], _, _ => trivial
  | c :: cs, vs, x => by
    simp only [DenT] at x
    obtain ⟨v, r, _, h2, h4⟩ := x
    refine ⟨?_, denT_facts cs r h4⟩
    rcases h2 with rfl | ⟨_, h⟩
    · trivial
    · exact denC_facts c _ h
end
end

theorem denV_norm {w0 : World} {O : Own} {ρ : Rho} {c : SV} {v : Value} (h : DenV w0 O ρ c v) : DenV w0 O ρ (normC c) v := by
  rcases h with rfl | ⟨e1, e2⟩
  · left; simp [normC]
  · right; exact ⟨(normC_agg c).trans e1, denC_norm c _ e2⟩

theorem FnOk.facts {g : Ctx} {f : FuncId} {args : List SV} {B : List Body} {out : OpOut} (h : factsL args → FnOk g f args B out) : FnOk g f args B out :=
  fun w0 O hG ρ Φ vs w d x hr => h (denT_facts _ _ d) w0 O hG ρ Φ vs w d x hr

theorem facts_svF : ∀ {ks : List IntKind} {a : Nat → Int} {i : Nat}, factsL (svF ks a i) → ∀ (j : Nat) (k : IntKind), ks[j]? = some k → Fits k (a (i + j))
  | [], _, _, _, j, k, h => by simp at h
  | k :: ks, a, i, h, 0, k', hj => by simp at hj; subst hj; exact h.1
  | k :: ks, a, i, h, j + 1, k', hj => by
    have := facts_svF h.2 j k' (by simpa using hj)
    rwa [show i + 1 + j = i + (j + 1) by omega] at this

theorem fits_u64 {n : Int} (h : Fits .u64 n) : ∃ m : Nat, n = m ∧ m < 18446744073709551616 := by
  obtain ⟨h1, h2⟩ := h
  have h1 : (0 : Int) ≤ n := h1
  have h2 : n ≤ 18446744073709551615 := h2
  exact ⟨n.toNat, by omega, by omega⟩
theorem fits_u32 {n : Int} (h : Fits .u32 n) : ∃ m : Nat, n = m ∧ m < 4294967296 := by
  obtain ⟨h1, h2⟩ := h
  have h1 : (0 : Int) ≤ n := h1
  have h2 : n ≤ 4294967295 := h2
  exact ⟨n.toNat, by omega, by omega⟩
theorem fits_u8 {n : Int} (h : Fits .u8 n) : ∃ m : Nat, n = m ∧ m < 256 := by
  obtain ⟨h1, h2⟩ := h
  have h1 : (0 : Int) ≤ n := h1
  have h2 : n ≤ 255 := h2
  exact ⟨n.toNat, by omega, by omega⟩
theorem fits_int {n : Int} (h : Fits .i64 n) : -9223372036854775808 ≤ n ∧ n ≤ 9223372036854775807 := h

/-- numbers a i, a (i + 1), .. -/
def listF : Nat → (Nat → Int) → Nat → List Int
  | 0, _, _ => []
  | n + 1, a, i => a i :: listF n a (i + 1)

theorem listF_get : ∀ (n : Nat) (a : Nat → Int) (i j : Nat), (listF n a i)[j]? = if j < n then some (a (i + j)) else none
  | 0, _, _, j => by simp [listF]
  | n + 1, a, i, 0 => by simp [listF]
  | n + 1, a, i, j + 1 => by
    simp only [listF, List.getElem?_cons_succ, listF_get n a (i + 1) j, Nat.add_lt_add_iff_right]
    rw [show i + 1 + j = i + (j + 1) by omega]
theorem listF_length : ∀ (n : Nat) (a : Nat → Int) (i : Nat), (listF n a i).length = n
  | 0, _, _ => rfl
  | n + 1, a, i => by simp [listF, listF_length n]
theorem listF_eq {n : Nat} {a b : Nat → Int} {i : Nat} : listF n a i = listF n b i ↔ ∀ j, j < n → a (i + j) = b (i + j) := by
  constructor
  · intro h j hj
    have := congrArg (fun l => l[j]?) h
    simp only [listF_get, if_pos hj] at this
    simpa using this
  · intro h
    apply List.ext_getElem?
    intro j
    rw [listF_get, listF_get]
    split
    · rw [h j (by assumption)]
    · rfl
theorem listF_eq0 {n : Nat} {a b : Nat → Int} : listF n a 0 = listF n b 0 ↔ ∀ j, j < n → a j = b j := by
  rw [listF_eq]; simp

theorem listF_getD (l : List Int) : ∀ (n i : Nat), n + i = l.length → listF n (fun j => l.getD j 0) i = l.drop i
  | 0, i, h => by
    have : l.length ≤ i := by omega
    rw [List.drop_of_length_le this]; rfl
  | n + 1, i, h => by
    simp only [listF]
    have hi : i < l.length := by omega
    rw [listF_getD l n (i + 1) (by omega), List.drop_eq_getElem_cons hi]
    congr 1
    simp [List.getElem?_eq_getElem hi]

/-- cells that are numbers of these kinds -/
theorem nums_svF {w0 : World} {O : Own} {ρ : Rho} {ks : List IntKind} {cs : List SV} {ns : List Int} (h : numsAs ks cs = some ns) {vs : List Value} (hd : DenL w0 O ρ cs vs) : DenL w0 O ρ (svF ks (fun j => ns.getD j 0) 0) vs ∧ ns = listF ks.length (fun j => ns.getD j 0) 0 := by
  obtain ⟨e1, l1, f1⟩ := numsAs_den ks cs ns vs h hd
  subst e1
  refine ⟨flat_den (by simp [l1]) fun j k hj => ?_, ?_⟩
  · have hjl : j < ks.length := (List.getElem?_eq_some_iff.1 hj).1
    have hn : ns[j]? = some (ns.getD j 0) := by
      rw [List.getD_eq_getElem?_getD, List.getElem?_eq_getElem (by omega)]; rfl
    rw [Nat.zero_add]
    exact ⟨by rw [List.getElem?_zipWith, hj, hn], f1 j k _ hj hn⟩
  · rw [listF_getD ns ks.length 0 (by omega)]; simp


/-- whatever the one stands for, the other does -/
def DenImp (c c' : SV) : Prop := ∀ w0 O ρ v, DenV w0 O ρ c v → DenV w0 O ρ c' v
theorem DenImp.refl (c : SV) : DenImp c c := fun _ _ _ _ h => h
def ImpL : List SV → List SV → Prop
  | [], [] => True
  | c :: cs, d :: ds => DenImp c d ∧ ImpL cs ds
  | _, _ => False
theorem ImpL.den {w0 : World} {O : Own} {ρ : Rho} : ∀ {cs ds : List SV} {vs : List Value}, ImpL cs ds → DenT w0 O ρ cs vs → DenT w0 O ρ ds vs
  | [], [], _, _, h => h
  | c :: cs, d :: ds, vs, hi, h => by
    simp only [DenT] at h ⊢
    obtain ⟨v, r, e, h1, h2⟩ := h
    exact ⟨v, r, e, hi.1 _ _ _ _ h1, ImpL.den hi.2 h2⟩
  | [], _ :: _, _, h, _ => h.elim
  | _ :: _, [], _, h, _ => h.elim
theorem FnOk.imp {g : Ctx} {f : FuncId} {args args' : List SV} {B : List Body} {out : OpOut} (h : FnOk g f args' B out) (hi : ImpL args args') : FnOk g f args B out := h.args fun _ _ _ _ d => hi.den d

theorem numsAs_len : ∀ {ks : List IntKind} {cs : List SV} {ns : List Int}, numsAs ks cs = some ns → ns.length = ks.length ∧ cs.length = ks.length
  | [], [], ns, h => by simp [numsAs] at h; subst h; simp
  | [], _ :: _, ns, h => by simp [numsAs] at h
  | _ :: _, [], ns, h => by simp [numsAs] at h
  | k :: ks, c :: cs, ns, h => by
    simp only [numsAs] at h
    split at h
    · rename_i l k' n r h1 h2
      split at h
      · simp only [Option.some.injEq] at h; subst h
        obtain ⟨g1, g2⟩ := numsAs_len h2
        simp [g1, g2]
      · simp at h
    · simp at h

theorem rep_get {α : Type} {n j : Nat} {k : α} (h : j < n) : (List.replicate n k)[j]? = some k := by rw [List.getElem?_replicate, if_pos h]

/-- the numbers of a list, each by its place -/
def atL (l : List Int) : Nat → Int := fun j => l.getD j 0
theorem listF_atL (l : List Int) : listF l.length (atL l) 0 = l := by
  have := listF_getD l l.length 0 (by omega)
  rw [List.drop_zero] at this
  exact this
theorem nums_list {ks : List IntKind} {cs : List SV} {ns : List Int} (h : numsAs ks cs = some ns) : ns = listF ks.length (atL ns) 0 := by
  rw [← (numsAs_len h).1, listF_atL]
theorem nums_imp {ks : List IntKind} {cs : List SV} {ns : List Int} (h : numsAs ks cs = some ns) : DenImp (.agg cs) (.agg (svF ks (atL ns) 0)) := fun w0 O ρ v hd => by
  obtain ⟨arr, rfl, h2⟩ := denV_agg hd
  exact den_agg (nums_svF h h2).1

theorem svF_cong : ∀ {ks : List IntKind} {a b : Nat → Int} {i : Nat}, (∀ j, j < ks.length → a (i + j) = b (i + j)) → svF ks a i = svF ks b i
  | [], _, _, _, _ => rfl
  | k :: ks, a, b, i, h => by
    simp only [svF]
    have h0 : a i = b i := h 0 (by simp)
    have h1 : svF ks a (i + 1) = svF ks b (i + 1) := svF_cong fun j hj => by
      have := h (j + 1) (by simpa using hj)
      rwa [show i + (j + 1) = i + 1 + j by omega] at this
    rw [h0, h1]

theorem allC_cons {p : Prop} {C : List Prop} : AllC (p :: C) ↔ p ∧ AllC C :=
  ⟨fun h => ⟨h p (.head _), fun q hq => h q (.tail _ hq)⟩, fun ⟨h1, h2⟩ q hq => by
    rcases List.mem_cons.1 hq with e | e
    · rw [e]; exact h1
    · exact h2 q e⟩
theorem allC_nil : AllC [] ↔ True := by simp [AllC]

/-- a function of plain arguments -/
theorem FnOk.pure {g : Ctx} (hU : CtxU g) {f : FuncId} {args : List SV} {v : SV} {n : Nat} {pl : List Plan} {C : List Prop} (h : runF g n pl f args [] [] = some (v, [], C)) (hC : AllC C) : FnOk g f args [] { val := v } :=
  FnOk.run (out := { val := v }) hU h hC (by simp [upto]) rfl (by decide) (by simp) (by simp)

end Go.Vx

/- Plain laws of chapter 1: no program in sight. -/
namespace Go.Vx

theorem some_eq {x : Nat} (h : x < 18446744073709551616) : (x ||| (18446744073709551616 - x) % 18446744073709551616) / 9223372036854775808 = if x = 0 then 0 else 1 := by
  split
  · subst_vars; decide
  · have h1 : (18446744073709551616 - x) % 18446744073709551616 = 18446744073709551616 - x := Nat.mod_eq_of_lt (by omega)
    rw [h1]
    have h2 : x ||| (18446744073709551616 - x) < 2 ^ 64 := Nat.or_lt_two_pow (by omega) (by omega)
    have h3 : x ≤ x ||| (18446744073709551616 - x) := Nat.left_le_or
    have h4 : 18446744073709551616 - x ≤ x ||| (18446744073709551616 - x) := Nat.right_le_or
    omega

theorem xor_eq_zero {a b : Nat} : a ^^^ b = 0 ↔ a = b := by
  constructor
  · intro h
    have : a ^^^ b ^^^ b = 0 ^^^ b := by rw [h]
    rwa [Nat.xor_assoc, Nat.xor_self, Nat.xor_zero, Nat.zero_xor] at this
  · rintro rfl; exact Nat.xor_self a

def equalE (a b : Nat) : Nat := 1 ^^^ (a ^^^ b ||| (18446744073709551616 - (a ^^^ b)) % 18446744073709551616) / 9223372036854775808
theorem equalE_eq {a b : Nat} (ha : a < 18446744073709551616) (hb : b < 18446744073709551616) : equalE a b = if a = b then 1 else 0 := by
  unfold equalE
  rw [some_eq (Nat.xor_lt_two_pow (n := 64) ha hb)]
  by_cases h : a = b
  · rw [if_pos h, if_pos (xor_eq_zero.2 h)]; decide
  · rw [if_neg h, if_neg (fun e => h (xor_eq_zero.1 e))]; decide

def lessE (a b : Nat) : Nat := (18446744073709551616 - 1 - a &&& b ||| 18446744073709551616 - 1 - (a ^^^ b) &&& (a + (18446744073709551616 - b)) % 18446744073709551616) / 9223372036854775808

theorem top_bit {v : Nat} (h : v < 18446744073709551616) : v / 9223372036854775808 = (v.testBit 63).toNat := by
  rw [Nat.testBit_eq_decide_div_mod_eq]
  have : v / 9223372036854775808 < 2 := by omega
  have e : (2 : Nat) ^ 63 = 9223372036854775808 := by decide
  rw [e]
  have h2 : v / 9223372036854775808 = 0 ∨ v / 9223372036854775808 = 1 := by omega
  rcases h2 with h2 | h2 <;> rw [h2] <;> decide
theorem top_dec {v : Nat} (h : v < 18446744073709551616) : v.testBit 63 = decide (9223372036854775808 ≤ v) := by
  have := top_bit h
  cases e : v.testBit 63
  · rw [e] at this; simp at this; simp; omega
  · rw [e] at this; simp at this; simp; omega
theorem top_not {v : Nat} (h : v < 18446744073709551616) : (18446744073709551616 - 1 - v).testBit 63 = !v.testBit 63 := by
  rw [top_dec h, top_dec (by omega)]
  by_cases e : 9223372036854775808 ≤ v
  · simp [e]; omega
  · simp [e]; omega

theorem lessE_eq {a b : Nat} (ha : a < 18446744073709551616) (hb : b < 18446744073709551616) : lessE a b = if a < b then 1 else 0 := by
  unfold lessE
  have hx : a ^^^ b < 18446744073709551616 := Nat.xor_lt_two_pow (n := 64) ha hb
  have hr : (a + (18446744073709551616 - b)) % 18446744073709551616 < 18446744073709551616 := Nat.mod_lt _ (by decide)
  rw [top_bit]
  · rw [Nat.testBit_or, Nat.testBit_and, Nat.testBit_and, top_not ha, top_not hx, Nat.testBit_xor, top_dec ha, top_dec hb, top_dec hr]
    by_cases h1 : 9223372036854775808 ≤ a <;> by_cases h2 : 9223372036854775808 ≤ b <;> by_cases h3 : a < b
    all_goals simp [h1, h2, h3]
    all_goals omega
  · refine Nat.or_lt_two_pow (n := 64) (Nat.lt_of_le_of_lt Nat.and_le_right hb) (Nat.lt_of_le_of_lt Nat.and_le_right hr)

def allE (s : Nat) : Nat := (18446744073709551616 - s % 2) % 18446744073709551616
theorem allE_eq (s : Nat) : allE s = if s % 2 = 1 then 18446744073709551615 else 0 := by
  unfold allE
  rcases Nat.mod_two_eq_zero_or_one s with h | h <;> rw [h] <;> decide

theorem ones_and {x : Nat} (n : Nat) (h : x < 2 ^ n) : 2 ^ n - 1 &&& x = x := by
  rw [Nat.and_comm, Nat.and_two_pow_sub_one_eq_mod, Nat.mod_eq_of_lt h]

def pickE (s a b : Nat) : Nat := b ^^^ (18446744073709551616 - s % 2) % 18446744073709551616 &&& (a ^^^ b)
theorem pickE_eq (s : Nat) {a b : Nat} (ha : a < 18446744073709551616) (hb : b < 18446744073709551616) : pickE s a b = if s % 2 = 1 then a else b := by
  have hx : a ^^^ b < 2 ^ 64 := Nat.xor_lt_two_pow ha hb
  show b ^^^ (allE s &&& (a ^^^ b)) = _
  rw [allE_eq]
  split
  · rw [show (18446744073709551615 : Nat) = 2 ^ 64 - 1 by decide, ones_and 64 hx, Nat.xor_comm a b, ← Nat.xor_assoc, Nat.xor_self, Nat.zero_xor]
  · rw [Nat.zero_and, Nat.xor_zero]

def pick8E (s a b : Nat) : Nat := b ^^^ (18446744073709551616 - s % 2) % 18446744073709551616 % 256 &&& (a ^^^ b)
theorem pick8E_eq (s : Nat) {a b : Nat} (ha : a < 256) (hb : b < 256) : pick8E s a b = if s % 2 = 1 then a else b := by
  have hx : a ^^^ b < 2 ^ 8 := Nat.xor_lt_two_pow ha hb
  show b ^^^ (allE s % 256 &&& (a ^^^ b)) = _
  rw [allE_eq]
  split
  · rw [show (18446744073709551615 % 256 : Nat) = 2 ^ 8 - 1 by decide, ones_and 8 hx, Nat.xor_comm a b, ← Nat.xor_assoc, Nat.xor_self, Nat.zero_xor]
  · rw [Nat.zero_mod, Nat.zero_and, Nat.xor_zero]

/-- a limb of a and one of b, exchanged or not -/
def swapA (s a b : Nat) : Nat := a ^^^ ((18446744073709551616 - s % 2) % 18446744073709551616 &&& (a ^^^ b))
def swapB (s a b : Nat) : Nat := b ^^^ ((18446744073709551616 - s % 2) % 18446744073709551616 &&& (a ^^^ b))
theorem swapB_eq (s : Nat) {a b : Nat} (ha : a < 18446744073709551616) (hb : b < 18446744073709551616) : swapB s a b = if s % 2 = 1 then a else b := pickE_eq s ha hb
theorem swapA_eq (s : Nat) {a b : Nat} (ha : a < 18446744073709551616) (hb : b < 18446744073709551616) : swapA s a b = if s % 2 = 1 then b else a := by
  have := pickE_eq s hb ha
  unfold pickE at this
  unfold swapA
  rw [Nat.xor_comm a b]; exact this

/-- what is unlike in two rows -/
def orF : Nat → (Nat → Int) → (Nat → Int) → Nat
  | 0, _, _ => 0
  | n + 1, a, b => orF n a b ||| (a n).toNat ^^^ (b n).toNat
theorem orF_lt {a b : Nat → Int} : ∀ {n : Nat}, (∀ j, j < n → Fits .u8 (a j) ∧ Fits .u8 (b j)) → orF n a b < 256 ∧ (orF n a b = 0 ↔ ∀ j, j < n → a j = b j)
  | 0, _ => ⟨by simp [orF], by simp [orF]⟩
  | n + 1, h => by
    obtain ⟨h1, h2⟩ := orF_lt (n := n) fun j hj => h j (by omega)
    obtain ⟨fa, fb⟩ := h n (by omega)
    obtain ⟨x, hx, hx'⟩ := fits_u8 fa
    obtain ⟨y, hy, hy'⟩ := fits_u8 fb
    simp only [orF]
    refine ⟨Nat.or_lt_two_pow (n := 8) h1 (Nat.xor_lt_two_pow (by rw [hx]; exact hx') (by rw [hy]; exact hy')), ?_⟩
    rw [Nat.or_eq_zero_iff, h2, xor_eq_zero, hx, hy]
    constructor
    · rintro ⟨g1, g2⟩ j hj
      by_cases e : j = n
      · subst e; rw [hx, hy]
        have : x = y := by simpa using g2
        rw [this]
      · exact g1 j (by omega)
    · intro g
      refine ⟨fun j hj => g j (by omega), ?_⟩
      have := g n (by omega)
      rw [hx, hy] at this
      have : x = y := by omega
      rw [this]

def eqArrE (n : Nat) (a b : Nat → Int) : Nat := 1 ^^^ (orF n a b ||| (18446744073709551616 - orF n a b) % 18446744073709551616) / 9223372036854775808
theorem eqArrE_eq {n : Nat} {a b : Nat → Int} (h : ∀ j, j < n → Fits .u8 (a j) ∧ Fits .u8 (b j)) : eqArrE n a b = if listF n a 0 = listF n b 0 then 1 else 0 := by
  obtain ⟨h1, h2⟩ := orF_lt h
  unfold eqArrE
  rw [some_eq (by omega)]
  by_cases e : listF n a 0 = listF n b 0
  · rw [if_pos e, if_pos (h2.2 (listF_eq0.1 e))]; decide
  · rw [if_neg e, if_neg (fun z => e (listF_eq0.2 (h2.1 z)))]; decide

end Go.Vx

namespace Go.Vx

/-! ### loops -/
noncomputable section
def findLoop (key : Nat) : Code → Option Code
  | .seq a b => match findLoop key a with | some c => some c | none => findLoop key b
  | .block _ c => findLoop key c
  | .loop c => match Nat.beq (firstRegion c) key with | true => some c | false => findLoop key c
  | .cond _ x y => match findLoop key x with | some c => some c | none => findLoop key y
  | .scope c => findLoop key c
  | _ => none

/-- the body of a function's loop, by the number of its first region -/
def bodyAt (P : Program) (f key : Nat) : Code :=
  match P.funcs[f]? with
  | some fn => match fn.body with
    | some c => match findLoop key c with | some c => c | none => .skip
    | none => .skip
  | none => .skip

def normB : Body → Body
  | .cells cs => .cells (normL cs)
  | .ints k l => .ints k l
  | .rows ks l => .rows ks l
  | .log l => .log l
def mkLoopN (G : LoopF) : LoopF := fun vals B => G (normL vals) (B.map normB)
end

/-! ### what is known of numbers in memory -/
def factsB : Body → Prop
  | .cells cs => factsL cs
  | .ints k l => ∀ n ∈ l, Fits k n
  | .rows ks l => ∀ r ∈ l, r.length = ks.length ∧ ∀ (i : Nat) (k : IntKind) (n : Int), ks[i]? = some k → r[i]? = some n → Fits k n
  | .log l => (∀ r ∈ l, r.length = 2 ∧ ∀ n ∈ r, Fits .i64 n) ∧ Fits .i64 (l.length : Int)

section
variable {w0 : World} {O : Own} {ρ : Rho} {w : World}

theorem factsL_iff : ∀ {cs : List SV}, factsL cs ↔ ∀ c ∈ cs, factsC c
  | [] => by simp [factsL]
  | c :: cs => by simp [factsL, factsL_iff (cs := cs)]

theorem cells_facts {b base : Nat} {cs : List SV} (h : CellsAt w0 O ρ w b base cs) : ∀ c ∈ cs, factsC c := fun c hc => by
  obtain ⟨j, hj⟩ := List.getElem?_of_mem hc
  obtain ⟨v, _, h2, _⟩ := h j c hj
  exact denC_facts c _ h2

theorem rows_facts {ks : List IntKind} {l : List (List Int)} (hok : ∀ r ∈ l, r.length = ks.length) (h : ∀ c ∈ cellsOf (.rows ks l), factsC c) : factsB (.rows ks l) := fun r hr => by
  refine ⟨hok r hr, fun i k n hk hn => ?_⟩
  have : SV.int k n ∈ cellsOf (.rows ks l) := by
    simp only [cellsOf, List.mem_flatten, List.mem_map]
    refine ⟨_, ⟨r, hr, rfl⟩, List.mem_of_getElem? (i := i) ?_⟩
    rw [List.getElem?_zipWith, hk, hn]
  exact h _ this

theorem own_facts {bd : Body} (hl : ∀ l, bd ≠ .log l) {loc : Option (Nat × Nat)} {len cap : Nat} {F : Foot} (h : OwnAt w0 O ρ w bd loc len cap F) : factsB bd := by
  obtain ⟨h1, h2, h3, h4⟩ := h
  cases loc with
  | none =>
    have h0 : ecount bd = 0 := by have := h4.1; omega
    cases bd with
    | cells cs => have : cs = [] := List.eq_nil_of_length_eq_zero h0; subst this; trivial
    | ints k l => have : l = [] := List.eq_nil_of_length_eq_zero h0; subst this; simp [factsB]
    | rows ks l => have : l = [] := List.eq_nil_of_length_eq_zero h0; subst this; simp [factsB]
    | log l => exact absurd rfl (hl l)
  | some y =>
    have hc := cells_facts h4.2.1
    cases bd with
    | cells cs => exact factsL_iff.2 hc
    | ints k l => exact fun n hn => hc (.int k n) (by simp only [cellsOf, List.mem_map]; exact ⟨n, hn, rfl⟩)
    | rows ks l => exact rows_facts h3 hc
    | log l => exact absurd rfl (hl l)

theorem holds_facts {bd : Body} {hd : Hd} {F : Foot} (h : Holds w0 O ρ w bd hd F) : factsB bd := by
  cases bd with
  | log l =>
    cases hd with
    | sl a b c => exact h.elim
    | «at» b base =>
      obtain ⟨loc, len, cap, F1, _, _, _, _, h5, h6, _⟩ := h
      have := own_facts (by intro l; simp) h6
      refine ⟨fun r hr => ?_, h5⟩
      obtain ⟨q1, q2⟩ := this r hr
      refine ⟨q1, fun n hn => ?_⟩
      obtain ⟨j, hj⟩ := List.getElem?_of_mem hn
      have hjl : j < 2 := by have := (List.getElem?_eq_some_iff.1 hj).1; simp at q1; omega
      match j, hjl, hj with
      | 0, _, hj => exact q2 0 .i64 n rfl hj
      | 1, _, hj => exact q2 1 .i64 n rfl hj
  | cells cs =>
    cases hd with
    | «at» b base => exact factsL_iff.2 (cells_facts h.2.2)
    | sl a b c => exact own_facts (by intro l; simp) h
  | ints k l =>
    cases hd with
    | «at» b base => exact fun n hn => cells_facts h.2.2 (.int k n) (by simp only [cellsOf, List.mem_map]; exact ⟨n, hn, rfl⟩)
    | sl a b c => exact own_facts (by intro l; simp) h
  | rows ks l =>
    cases hd with
    | «at» b base => exact rows_facts h.1 (cells_facts h.2.2)
    | sl a b c => exact own_facts (by intro l; simp) h

theorem relH_facts {B : List Body} {Φ : Nat → Foot} (x : RelH w0 O ρ (BH B) w Φ) : ∀ b ∈ B, factsB b := fun b hb => by
  obtain ⟨j, hj⟩ := List.getElem?_of_mem hb
  obtain ⟨hd, _, h⟩ := x.holds j b hj
  exact holds_facts h

theorem denV_facts {c : SV} {v : Value} (h : DenV w0 O ρ c v) : factsC c := by
  rcases h with rfl | ⟨_, h⟩
  · trivial
  · exact denC_facts c _ h
end

theorem FnOk.factsB {g : Ctx} {f : FuncId} {args : List SV} {B : List Body} {out : OpOut} (h : (∀ b ∈ B, Go.Vx.factsB b) → FnOk g f args B out) : FnOk g f args B out :=
  fun w0 O hG ρ Φ vs w d x hr => h (relH_facts x) w0 O hG ρ Φ vs w d x hr

section
variable {P : Program} {w0 : World} {O : Own} {nT m : Nat} {c : Code} {e : Ex} {S S' : List (Nat × SV)} {B B' : List Body}

theorem SimC.facts (hk : (S.map (·.1)).Nodup) (hb : ∀ y ∈ S, y.1 < 65535) (h : (∀ y ∈ S, factsC y.2) → (∀ b ∈ B, factsB b) → SimC P w0 O nT c S B e S' B' m) : SimC P w0 O nT c S B e S' B' m := by
  intro ρ Φ a w r hr
  refine h (fun y hy => ?_) (relH_facts r.heap) ρ Φ a w r hr
  have hget : ∀ {l : List (Nat × SV)}, (l.map (·.1)).Nodup → (∀ y ∈ l, y.1 < 65535) → y ∈ l → tget (mkT l) y.1 = y.2 := by
    intro l
    induction l with
    | nil => intro _ _ h; simp at h
    | cons z l ih =>
      intro hn hl hy
      have e : tget (mkT (z :: l)) y.1 = if y.1 = z.1 then z.2 else tget (mkT l) y.1 := Tr.get_set _ _ _ _ _ (hl z (by simp))
      rw [e]
      simp only [List.map_cons, List.nodup_cons] at hn
      rcases List.mem_cons.1 hy with rfl | h
      · rw [if_pos rfl]
      · have : y.1 ≠ z.1 := fun e => hn.1 (e ▸ List.mem_map.2 ⟨y, h, rfl⟩)
        rw [if_neg this]
        exact ih hn.2 (fun y hy => hl y (by simp [hy])) h
  have := r.tmps y.1
  rw [hget hk hb hy] at this
  exact denV_facts this

/-- slots that say less -/
theorem SimC.pre {S0 : List (Nat × SV)} (h : SimC P w0 O nT c S B e S' B' m) (hi : ∀ t, DenImp (tget (mkT S0) t) (tget (mkT S) t)) : SimC P w0 O nT c S0 B e S' B' m :=
  fun ρ Φ a w r hr => h ρ Φ a w ⟨r.size, r.defers, fun t => hi t _ _ _ _ (r.tmps t), r.heap⟩ hr

theorem norm_imp (c : SV) : DenImp c (normC c) := fun _ _ _ _ h => denV_norm h

theorem zip_norm : ∀ (keep : List Nat) (vals : List SV) (t : Nat), (∀ k ∈ keep, k < 65535) → DenImp (tget (mkT (keep.zip vals)) t) (tget (mkT (keep.zip (normL vals))) t)
  | [], vals, t, _ => by simpa [mkT] using DenImp.refl _
  | k :: keep, [], t, _ => by simpa [mkT, normL] using DenImp.refl _
  | k :: keep, v :: vals, t, h => by
    have e1 : tget (mkT ((k :: keep).zip (v :: vals))) t = if t = k then v else tget (mkT (keep.zip vals)) t := Tr.get_set _ _ _ _ _ (h k (by simp))
    have e2 : tget (mkT ((k :: keep).zip (normL (v :: vals)))) t = if t = k then normC v else tget (mkT (keep.zip (normL vals))) t := by
      simp only [normL]; exact Tr.get_set _ _ _ _ _ (h k (by simp))
    rw [e1, e2]
    split
    · exact norm_imp v
    · exact zip_norm keep vals t fun y hy => h y (by simp [hy])

theorem normL_map (cs : List SV) : normL cs = cs.map normC := by
  induction cs with
  | nil => rfl
  | cons c cs ih => simp [normL, ih]

theorem cells_norm {ρ : Rho} {w : World} {b base : Nat} {cs : List SV} (x : CellsAt w0 O ρ w b base cs) : CellsAt w0 O ρ w b base (normL cs) := by
  intro j c hc
  rw [normL_map, List.getElem?_map] at hc
  cases hj : cs[j]? with
  | none => simp [hj] at hc
  | some c0 =>
    simp [hj] at hc; subst hc
    obtain ⟨v, g1, g2, g3⟩ := x j c0 hj
    exact ⟨v, g1, denC_norm c0 _ g2, g3⟩

theorem holds_norm {ρ : Rho} {w : World} {bd : Body} {hd : Hd} {F : Foot} (x : Holds w0 O ρ w bd hd F) : Holds w0 O ρ w (normB bd) hd F := by
  cases bd with
  | cells cs =>
    have hl : (normL cs).length = cs.length := by rw [normL_map]; simp
    cases hd with
    | «at» b base =>
      obtain ⟨q1, q2, q3⟩ := x
      exact ⟨trivial, by show Rng F b base (normL cs).length; rw [hl]; exact q2, cells_norm q3⟩
    | sl loc len cap =>
      obtain ⟨h1, h2, h3, h4⟩ := x
      refine ⟨by show len = (normL cs).length; rw [hl]; exact h1, h2, trivial, ?_⟩
      cases loc with
      | none => exact h4
      | some y => exact ⟨h4.1, cells_norm h4.2.1, h4.2.2⟩
  | ints k l => exact x
  | rows ks l => exact x
  | log l => exact x

theorem relH_norm {ρ : Rho} {w : World} {Φ : Nat → Foot} (x : RelH w0 O ρ (BH B) w Φ) : RelH w0 O ρ (BH (B.map normB)) w Φ := by
  have hn : ∀ id, BH (B.map normB) id ≠ none → BH B id ≠ none := fun id h e => h (by unfold BH at e ⊢; rw [List.getElem?_map, e]; rfl)
  refine ⟨x.frame, fun id bd h => ?_, fun id id' b o hne h1 h2 => x.disj id id' b o hne (hn _ h1) (hn _ h2), fun id b o h1 => x.mine id b o (hn _ h1)⟩
  unfold BH at h
  rw [List.getElem?_map] at h
  cases hb : B[id]? with
  | none => simp [hb] at h
  | some b0 =>
    simp [hb] at h; subst h
    obtain ⟨hd, q1, q2⟩ := x.holds id b0 hb
    exact ⟨hd, q1, holds_norm q2⟩

/-- chunks that say less -/
theorem SimC.preB (h : SimC P w0 O nT c S (B.map normB) e S' B' m) : SimC P w0 O nT c S B e S' B' m :=
  fun ρ Φ a w r hr => h ρ Φ a w ⟨r.size, r.defers, r.tmps, relH_norm r.heap⟩ (by simpa using hr)

theorem LoopGood.mkN {g : Ctx} {keep : List Nat} {G : LoopF} (hk : ∀ k ∈ keep, k < 65535)
    (h : ∀ vals B S' B' C, G vals B = some (S', B', C) → AllC C → vals.length = keep.length → ∀ w0 O, GlobOk g w0 O → SimC g.P w0 O nT c (keep.zip vals) B e S' B' m) : LoopGood g nT c keep m e (mkLoopN G) := by
  intro vals B S' B' C hG hC hl w0 O hgl
  have hl2 : (normL vals).length = keep.length := by
    rw [← hl]
    clear hG hl
    induction vals with
    | nil => rfl
    | cons v vals ih => simp [normL, ih]
  exact ((h (normL vals) (B.map normB) S' B' C hG hC hl2 w0 O hgl).pre fun t => zip_norm keep vals t hk).preB

/-- N rounds, then out -/
theorem SimC.iter {g : Ctx} {S : Nat → List (Nat × SV)} {B : Nat → List Body} {N : Nat} (hround : ∀ i, i < N → SimC g.P w0 O nT c (S i) (B i) .normal (S (i + 1)) (B (i + 1)) m) (hexit : SimC g.P w0 O nT c (S N) (B N) e S' B' m) (he : e ≠ .normal) :
    ∀ i, i ≤ N → SimC g.P w0 O nT (.loop c) (S i) (B i) e S' B' m := by
  have : ∀ n i, i + n = N → SimC g.P w0 O nT (.loop c) (S i) (B i) e S' B' m := by
    intro n
    induction n with
    | zero => intro i hi; have : i = N := by omega
              subst this; exact SimC.done hexit he
    | succ n ih => intro i hi; exact SimC.next (Nat.le_refl _) (hround i (by omega)) (ih (i + 1) (by omega))
  intro i hi
  exact this (N - i) i (by omega)

theorem sub_mkT {S S1 : List (Nat × SV)} (h : ∀ y ∈ S1, y.1 < 65535 ∧ tget (mkT S) y.1 = y.2) (t : Nat) : tget (mkT S1) t = tget (mkT S) t ∨ tget (mkT S1) t = .any := by
  rcases tget_mkT S1 t fun y hy => (h y hy).1 with e | ⟨y, h1, h2, h3⟩
  · exact .inr e
  · left; rw [h3, ← (h y h1).2, h2]
end
end Go.Vx

namespace Go.Vx

/-- a chunk that says less -/
inductive BImp : Body → Body → Prop where
  | refl (b : Body) : BImp b b
  | cells {cs ds : List SV} (h : ImpL cs ds) : BImp (.cells cs) (.cells ds)

theorem ImpL.get : ∀ {cs ds : List SV}, ImpL cs ds → cs.length = ds.length ∧ ∀ (j : Nat) (d : SV), ds[j]? = some d → ∃ c, cs[j]? = some c ∧ DenImp c d
  | [], [], _ => by simp
  | c :: cs, d :: ds, h => by
    obtain ⟨g1, g2⟩ := ImpL.get h.2
    refine ⟨by simp [g1], fun j e he => ?_⟩
    cases j with
    | zero => simp at he; subst he; exact ⟨c, by simp, h.1⟩
    | succ j => simp at he; obtain ⟨c', q1, q2⟩ := g2 j e he; exact ⟨c', by simpa using q1, q2⟩
  | [], _ :: _, h => h.elim
  | _ :: _, [], h => h.elim

section
variable {w0 : World} {O : Own} {ρ : Rho} {w : World}

theorem denImp_cell {c d : SV} (h : DenImp c d) {v : Value} (hv : isAggV v = false) (hd : isAggS c = false) (x : DenC w0 O ρ c [v]) : DenC w0 O ρ d [v] := by
  have h1 : DenV w0 O ρ c v := .inr ⟨hd.trans hv.symm, by rw [not_agg_cells hv]; exact x⟩
  rcases h _ _ _ _ h1 with e | ⟨_, e⟩
  · subst e; simp [DenC]
  · rwa [not_agg_cells hv] at e

/-- cells that are no aggregates -/
def flatL (cs : List SV) : Prop := ∀ c ∈ cs, isAggS c = false

theorem cells_imp {b base : Nat} {cs ds : List SV} (h : ImpL cs ds) (hf : flatL cs) (x : CellsAt w0 O ρ w b base cs) : CellsAt w0 O ρ w b base ds := fun j d hd => by
  obtain ⟨c, q1, q2⟩ := h.get.2 j d hd
  obtain ⟨v, g1, g2, g3, g4⟩ := x j c q1
  exact ⟨v, g1, denImp_cell q2 g3 (hf c (List.mem_of_getElem? q1)) g2, g3, g4⟩

theorem holds_imp {b b' : Body} (h : BImp b b') (hf : ∀ cs, b = .cells cs → flatL cs) {hd : Hd} {F : Foot} (x : Holds w0 O ρ w b hd F) : Holds w0 O ρ w b' hd F := by
  cases h with
  | refl => exact x
  | cells h =>
    rename_i cs ds
    have hl := h.get.1
    have hf := hf cs rfl
    cases hd with
    | «at» bb base =>
      obtain ⟨q1, q2, q3⟩ := x
      exact ⟨trivial, by show Rng F bb base ds.length; rw [← hl]; exact q2, cells_imp h hf q3⟩
    | sl loc len cap =>
      obtain ⟨h1, h2, h3, h4⟩ := x
      refine ⟨by show len = ds.length; rw [← hl]; exact h1, h2, trivial, ?_⟩
      cases loc with
      | none => exact h4
      | some y => exact ⟨h4.1, cells_imp h hf h4.2.1, h4.2.2⟩

def BImpL : List Body → List Body → Prop
  | [], [] => True
  | b :: bs, c :: cs => (BImp b c ∧ ∀ l, b = .cells l → flatL l) ∧ BImpL bs cs
  | _, _ => False
theorem BImpL.get : ∀ {bs cs : List Body}, BImpL bs cs → bs.length = cs.length ∧ ∀ (j : Nat) (c : Body), cs[j]? = some c → ∃ b, bs[j]? = some b ∧ BImp b c ∧ ∀ l, b = .cells l → flatL l
  | [], [], _ => by simp
  | c :: cs, d :: ds, h => by
    obtain ⟨g1, g2⟩ := BImpL.get h.2
    refine ⟨by simp [g1], fun j e he => ?_⟩
    cases j with
    | zero => simp at he; subst he; exact ⟨c, by simp, h.1⟩
    | succ j => simp at he; obtain ⟨c', q1, q2⟩ := g2 j e he; exact ⟨c', by simpa using q1, q2⟩
  | [], _ :: _, h => h.elim
  | _ :: _, [], h => h.elim

theorem relH_imp {B B' : List Body} {Φ : Nat → Foot} (h : BImpL B B') (x : RelH w0 O ρ (BH B) w Φ) : RelH w0 O ρ (BH B') w Φ := by
  have hn : ∀ id, BH B' id ≠ none → BH B id ≠ none := fun id h' e => by
    unfold BH at e h'
    apply h'
    have := h.get.1
    have e := List.getElem?_eq_none_iff.1 e
    exact List.getElem?_eq_none (by omega)
  refine ⟨x.frame, fun id bd hb => ?_, fun id id' b o hne h1 h2 => x.disj id id' b o hne (hn _ h1) (hn _ h2), fun id b o h1 => x.mine id b o (hn _ h1)⟩
  obtain ⟨b0, q1, q2, q3⟩ := h.get.2 id bd hb
  obtain ⟨hd, g1, g2⟩ := x.holds id b0 q1
  exact ⟨hd, g1, holds_imp q2 q3 g2⟩
end

theorem FnOk.preB {g : Ctx} {f : FuncId} {args : List SV} {B B' : List Body} {out : OpOut} (h : FnOk g f args B' out) (hi : BImpL B B') (he : ∀ j, afterH B out j = afterH B' out j) : FnOk g f args B out := by
  intro w0 O hG ρ Φ vs w d x hr
  have hl := hi.get.1
  refine (h w0 O hG ρ Φ vs w d (relH_imp hi x) (by rw [← hl]; exact hr)).mono fun u w' ⟨ρ', Φ', q1, q2, q3, q4⟩ => ⟨ρ', Φ', q1, q2, by rw [hl]; exact q3, relH_funext (fun j => (he j).symm) q4⟩

theorem SimC.preI {P : Program} {w0 : World} {O : Own} {nT m : Nat} {c : Code} {e : Ex} {S S' : List (Nat × SV)} {B B' B1 : List Body} (h : SimC P w0 O nT c S B1 e S' B' m) (hi : BImpL B B1) : SimC P w0 O nT c S B e S' B' m :=
  fun ρ Φ a w r hr => h ρ Φ a w ⟨r.size, r.defers, r.tmps, relH_imp hi r.heap⟩ (by rw [← hi.get.1]; exact hr)

theorem impL_nums {ks : List IntKind} : ∀ {cs : List SV} {ns : List Int} {i : Nat}, numsAs ks cs = some ns → ∀ {a : Nat → Int}, (∀ j, j < ns.length → a (i + j) = ns.getD j 0) → ImpL cs (svF ks a i) ∧ flatL cs := by
  induction ks with
  | nil =>
    intro cs ns i h a _
    cases cs with
    | nil => exact ⟨trivial, fun _ h => by simp at h⟩
    | cons => simp [numsAs] at h
  | cons k ks ih =>
    intro cs ns i h a ha
    cases cs with
    | nil => simp [numsAs] at h
    | cons c cs =>
      simp only [numsAs] at h
      split at h
      · rename_i l k' n r h1 h2
        split at h
        · rename_i hk
          obtain rfl := kidx_inj hk
          simp only [Option.some.injEq] at h; subst h
          obtain ⟨q1, q2⟩ := ih (i := i + 1) h2 (a := a) fun j hj => by
            have := ha (j + 1) (by simp; omega)
            rw [show i + 1 + j = i + (j + 1) by omega, this]; rfl
          have h0 : a i = n := by have := ha 0 (by simp); simpa using this
          refine ⟨⟨fun w0 O ρ v hv => ?_, q1⟩, fun d hd => ?_⟩
          · obtain ⟨rfl, hf⟩ := denV_num hv h1
            rw [h0]; exact den_int hf
          · rcases List.mem_cons.1 hd with rfl | hd
            · cases d <;> simp [num] at h1 <;> rfl
            · exact q2 d hd
        · simp at h
      · simp at h

/-- chunks of numbers -/
theorem cells_nums {ks : List IntKind} {cs : List SV} {ns : List Int} (h : numsAs ks cs = some ns) : BImp (.cells cs) (.cells (svF ks (atL ns) 0)) ∧ ∀ l, Body.cells cs = .cells l → flatL l := by
  obtain ⟨h1, h2⟩ := impL_nums (i := 0) h (a := atL ns) fun j _ => by rw [Nat.zero_add]; rfl
  exact ⟨.cells h1, fun l e => by injection e with e; subst e; exact h2⟩


theorem slice_reach {H : Type} {P : Program} {ts : List TypeId} {ds : List (DataW H)} (h : (DataW.weightsEach P ts ds).all (· ≤ reachBytes) = true) {j : Nat} {t e : TypeId} {d : DataW H} {k : IntKind} {l : List Int} (ht : ts[j]? = some t) (hd : ds[j]? = some d) (hu : P.underlying t = some (.slice e))
    (hdis : d = .nil ∧ l = [] ∨ ∃ r, d = .slice (Go.ChangeShapes.lits k l) r) : l.length * P.bytesOf e ≤ 140737488351232 := by
  rcases hdis with ⟨_, rfl⟩ | ⟨r, rfl⟩
  · simp
  · have := sized_slice h ht hd hu
    have e1 : (Go.ChangeShapes.lits (H := H) k l).length = l.length := by simp [Go.ChangeShapes.lits]
    rw [e1] at this
    have h2 : l.length * P.bytesOf e ≤ (l.length + r.length) * P.bytesOf e := Nat.mul_le_mul_right _ (by omega)
    have h3 : reachBytes = 140737488351232 := by decide
    omega

end Go.Vx
