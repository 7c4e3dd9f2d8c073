/- A symbolic executor over the model's code, and that it is sound, part 3: lemmas for the proofs of this seat, no statement of their own. No conditions. -/
import Derived.Test.YthciddlfnajchaaDoorV2
import Derived.WalkKit
import Derived.OpenShut
import Derived.JoinedCond
import Derived.Carry
import Derived.ChangeSlices
import Derived.SizedLaws
import Derived.Laws.LoneSync
import Derived.RangeFuncNested
import Derived.RangeFuncLeaves
import Derived.OrdersIn

set_option linter.unusedVariables false
namespace Go.Vx

def cleanC : SV → Bool
  | .lit .. | .int .. | .bool _ | .sbool _ | .raw _ => true
  | _ => false
def cleanB : Body → Bool
  | .cells cs => cs.all cleanC
  | .lists .. => false
  | .grow .. => false
  | _ => true

theorem denC_clean {w0 w1 : World} {O O1 : Own} {ρ ρ1 : Rho} {c : SV} (h : cleanC c = true) {vs : List Value} (x : DenC w0 O ρ c vs) : DenC w1 O1 ρ1 c vs := by
  cases c <;> simp [cleanC] at h <;> simpa [DenC] using x

theorem cells_clean {bd : Body} (h : cleanB bd = true) : ∀ c ∈ cellsOf bd, cleanC c = true := by
  intro c hc
  cases bd with
  | cells cs => exact List.all_eq_true.1 h c hc
  | ints k l =>
    simp only [cellsOf, List.mem_map] at hc
    obtain ⟨n, _, rfl⟩ := hc; rfl
  | lists q k l => simp [cleanB] at h
  | grow ks l => simp [cleanB] at h
  | rows ks l =>
    simp only [cellsOf, List.mem_flatten, List.mem_map] at hc
    obtain ⟨r, ⟨row, _, rfl⟩, hc⟩ := hc
    rw [List.mem_iff_getElem?] at hc
    obtain ⟨i, hi⟩ := hc
    rw [List.getElem?_zipWith] at hi
    split at hi
    · simp at hi; subst hi; rfl
    · simp at hi
  | log l => simp [cellsOf] at hc

section
variable {w0 w1 : World} {O O1 : Own} {ρ ρ1 : Rho} {w : World}

theorem cellsAt_clean {cs : List SV} (h : ∀ c ∈ cs, cleanC c = true) {b base : Nat} (x : CellsAt w0 O ρ w b base cs) : CellsAt w1 O1 ρ1 w b base cs := fun j c hc =>
  let ⟨v, g1, g2, g3⟩ := x j c hc
  ⟨v, g1, denC_clean (h c (List.mem_of_getElem? hc)) g2, g3⟩

theorem ownAt_clean {bd : Body} (h : cleanB bd = true) {loc : Option (Nat × Nat)} {len cap : Nat} {F : Foot} (x : OwnAt w0 O ρ w bd loc len cap F) : OwnAt w1 O1 ρ1 w bd loc len cap F := by
  obtain ⟨h1, h2, h3, h4⟩ := x
  refine ⟨h1, h2, h3, ?_⟩
  cases loc with
  | none => exact h4
  | some y => exact ⟨h4.1, cellsAt_clean (cells_clean h) h4.2.1, h4.2.2⟩

theorem holds_clean {bd : Body} (h : cleanB bd = true) {hd : Hd} {F : Foot} (x : Holds w0 O ρ w bd hd F) : Holds w1 O1 ρ1 w bd hd F := by
  cases bd with
  | log l =>
    cases hd with
    | sl a b c => exact x
    | «at» b base =>
      obtain ⟨loc, len, cap, F1, h1, h2, h3, h4, h5, h6, h7⟩ := x
      exact ⟨loc, len, cap, F1, h1, h2, h3, h4, h5, ownAt_clean rfl h6, h7⟩
  | cells cs =>
    cases hd with
    | «at» b base => exact ⟨x.1, x.2.1, cellsAt_clean (cells_clean h) x.2.2⟩
    | sl a b c => exact x.elim
  | lists q k l => simp [cleanB] at h
  | grow ks l => simp [cleanB] at h
  | ints k l =>
    cases hd with
    | «at» b base => exact ⟨x.1, x.2.1, cellsAt_clean (cells_clean h) x.2.2⟩
    | sl a b c => exact ownAt_clean h x
  | rows ks l =>
    cases hd with
    | «at» b base => exact ⟨x.1, x.2.1, cellsAt_clean (cells_clean h) x.2.2⟩
    | sl a b c => exact ownAt_clean h x

theorem Frame.comp {w2 : World} (h : Frame w0 O w) (h' : Frame w O1 w2) (hs : ∀ b o, b < w0.heap.size → O1.own b o → O.own b o) : Frame w0 O w2 :=
  ⟨h'.os.trans h.os, h'.tape.trans h.tape, h'.output.trans h.output, Nat.le_trans h.size h'.size,
    fun k hk => (h.block k hk).comp (h'.block k (Nat.lt_of_lt_of_le hk h.size)) fun j hj => hs k j hk hj, h.mem, fun k hk => by
    by_cases hkw : k < w.heap.size
    · have hq := h.calm k hk
      have hb := h'.block k hkw
      cases e : w.heap[k]? with
      | none => rw [e] at hb; simp only [Kept] at hb; rw [hb]; intro c t fr e; simp at e
      | some ob =>
        rw [e] at hb
        cases ob
        case cells c t fr =>
          obtain ⟨c', f', e1, e2, _, e4, e5⟩ := hb
          have q := hq _ _ _ e
          rw [e1]
          intro c1 t1 f1 e6
          simp only [Option.some.injEq, Obj.cells.injEq] at e6
          obtain ⟨rfl, _, rfl⟩ := e6
          by_cases hx : ∃ j, O1.own k j
          · obtain ⟨j, hj⟩ := hx
            rw [e2]; exact (e5 j hj).2
          · rw [e4 fun j hj => hx ⟨j, hj⟩, e2]; exact q
        all_goals (simp only [Kept] at hb; rw [hb]; intro c t fr e; simp at e)
    · exact h'.calm k (by omega)⟩

/-! ### a call looks at some chunks alone -/
variable {H : Nat → Option Body} {Φ : Nat → Foot}

theorem nodup_inj : ∀ {l : List Nat}, l.Nodup → ∀ {i j x : Nat}, l[i]? = some x → l[j]? = some x → i = j
  | [], _, i, j, x, h, _ => by simp at h
  | y :: l, hn, i, j, x, h, h' => by
    obtain ⟨h1, h2⟩ := List.nodup_cons.1 hn
    cases i with
    | zero =>
      simp at h; subst h
      cases j with
      | zero => rfl
      | succ j => exact absurd (List.mem_of_getElem? (by simpa using h')) h1
    | succ i =>
      cases j with
      | zero => simp at h'; subst h'; exact absurd (List.mem_of_getElem? (by simpa using h)) h1
      | succ j =>
        have := nodup_inj h2 (i := i) (j := j) (x := x) (by simpa using h) (by simpa using h')
        omega

def inO (O : Own) (Φ : Nat → Foot) (ids : List Nat) : Own := ⟨fun b o => ∃ id, id ∈ ids ∧ Φ id b o, O.mem, O.lent⟩
def inR (ρ : Rho) (ids : List Nat) : Rho := fun j => (ids[j]?).bind ρ
def inF (Φ : Nat → Foot) (ids : List Nat) : Nat → Foot := fun j => match ids[j]? with | some id => Φ id | none => fun _ _ => False

end
end Go.Vx

namespace Go.Vx

theorem mapC_agg (f : Nat → Option Nat) (c : SV) : mapC f c = .any ∨ isAggS (mapC f c) = isAggS c := by
  cases c <;> simp only [mapC, isAggS] <;> (try (split <;> simp)) <;> simp

theorem mapL_length (f : Nat → Option Nat) : ∀ cs, (mapL f cs).length = cs.length
  | [] => by simp [mapL]
  | c :: cs => by simp [mapL, mapL_length f cs]
theorem mapL_get (f : Nat → Option Nat) : ∀ (cs : List SV) (j : Nat), (mapL f cs)[j]? = (cs[j]?).map (mapC f)
  | [], j => by simp [mapL]
  | c :: cs, 0 => by simp [mapL]
  | c :: cs, j + 1 => by simp [mapL, mapL_get f cs]

section
variable {w0 w1 : World} {O O1 : Own} {ρ ρ1 : Rho}

mutual
theorem denC_map {f : Nat → Option Nat} (hR : ∀ id h j, ρ id = some h → f id = some j → ρ1 j = some h) : ∀ (c : SV) (vs : List Value), DenC w0 O ρ c vs → DenC w0 O ρ1 (mapC f c) vs
  | .any, _, _ => by simp [mapC, DenC]
  | .bool _, _, x => by simpa [mapC, DenC] using x
  | .sbool _, _, x => by simpa [mapC, DenC] using x
  | .lit _ _, _, x => by simpa [mapC, DenC] using x
  | .int _ _, _, x => by simpa [mapC, DenC] using x
  | .raw _, _, x => by simpa [mapC, DenC] using x
  | .ptr id off, _, x => by
    simp only [DenC, mapC] at x ⊢
    obtain ⟨hd, b, base, h1, h2, h3⟩ := x
    split
    · rename_i j hj; simp only [DenC]; exact ⟨hd, b, base, hR _ _ _ h1 hj, h2, h3⟩
    · simp [DenC]
  | .sptr id m i sz j, _, x => by
    simp only [DenC, mapC] at x ⊢
    obtain ⟨hd, b, base, h1, h2, h3⟩ := x
    split
    · rename_i j hj; simp only [DenC]; exact ⟨hd, b, base, hR _ _ _ h1 hj, h2, h3⟩
    · simp [DenC]
  | .sl id m off sz j len k, _, x => by
    simp only [DenC, mapC] at x ⊢
    obtain ⟨a, cap, h1, h2, h4, h3⟩ := x
    split
    · rename_i j hj; simp only [DenC]; exact ⟨a, cap, h1, h2, h4, fun hl => let ⟨hd, b, base, g1, g2, g3⟩ := h3 hl; ⟨hd, b, base, hR _ _ _ g1 hj, g2, g3⟩⟩
    · simp [DenC]
  | .own id, _, x => by
    simp only [DenC, mapC] at x ⊢
    obtain ⟨l, len, cap, h1, h2⟩ := x
    split
    · rename_i j hj; simp only [DenC]; exact ⟨l, len, cap, hR _ _ _ h1 hj, h2⟩
    · simp [DenC]
  | .ro sz n f, _, x => by simpa only [mapC, DenC] using x
  | .roi k l, _, x => by simpa only [mapC, DenC] using x
  | .rob q k l, _, x => by simpa only [mapC, DenC] using x
  | .rop v, _, x => by simpa only [mapC, DenC] using x
  | .agg cs, vs, x => by
    simp only [mapC, DenC] at x ⊢
    exact denL_map hR cs vs x
  | .tuple ws, _, x => by
    simp only [mapC, DenC] at x ⊢
    obtain ⟨arr, h1, h2⟩ := x
    exact ⟨arr, h1, denT_map hR ws _ h2⟩
  | .func g first cap, _, x => by
    simp only [mapC, DenC] at x ⊢
    obtain ⟨a, c, h1, h2, h3⟩ := x
    exact ⟨a, c, h1, denT_map hR first _ h2, denT_map hR cap _ h3⟩
theorem denL_map {f : Nat → Option Nat} (hR : ∀ id h j, ρ id = some h → f id = some j → ρ1 j = some h) : ∀ (cs : List SV) (vs : List Value), DenL w0 O ρ cs vs → DenL w0 O ρ1 (mapL f cs) vs
  | [], _, x => by simpa [mapL, DenL] using x
  | c :: cs, vs, x => by
    simp only [mapL, DenL] at x ⊢
    obtain ⟨v, r, h1, h2, h3, h4⟩ := x
    exact ⟨v, r, h1, denC_map hR c _ h2, h3, denL_map hR cs r h4⟩
theorem denT_map {f : Nat → Option Nat} (hR : ∀ id h j, ρ id = some h → f id = some j → ρ1 j = some h) : ∀ (cs : List SV) (vs : List Value), DenT w0 O ρ cs vs → DenT w0 O ρ1 (mapL f cs) vs
  | [], _, x => by simpa [mapL, DenT] using x
  | c :: cs, vs, x => by
    simp only [mapL, DenT] at x ⊢
    obtain ⟨v, r, h1, h2, h4⟩ := x
    refine ⟨v, r, h1, ?_, denT_map hR cs r h4⟩
    rcases h2 with rfl | ⟨e1, e2⟩
    · left; simp [mapC]
    · rcases mapC_agg f c with e | e
      · left; exact e
      · right; exact ⟨e.trans e1, denC_map hR c _ e2⟩
end

theorem denV_map {f : Nat → Option Nat} (hR : ∀ id h j, ρ id = some h → f id = some j → ρ1 j = some h) {c : SV} {v : Value} (h : DenV w0 O ρ c v) : DenV w0 O ρ1 (mapC f c) v := by
  rcases h with rfl | ⟨e1, e2⟩
  · left; simp [mapC]
  · rcases mapC_agg f c with e | e
    · left; exact e
    · right; exact ⟨e.trans e1, denC_map hR c _ e2⟩


mutual
theorem denC_cong (hO : O.mem = O1.mem) : ∀ (ρ : Rho) (c : SV) (vs : List Value), DenC w0 O ρ c vs → DenC w1 O1 ρ c vs
  | _, .any, _, _ => by simp [DenC]
  | _, .bool _, _, x => by simpa [DenC] using x
  | _, .sbool _, _, x => by simpa [DenC] using x
  | _, .lit _ _, _, x => by simpa [DenC] using x
  | _, .int _ _, _, x => by simpa [DenC] using x
  | _, .raw _, _, x => by simpa [DenC] using x
  | _, .ptr id off, _, x => by simpa only [DenC] using x
  | _, .sptr .., _, x => by simpa only [DenC] using x
  | _, .sl .., _, x => by simpa only [DenC] using x
  | _, .own id, _, x => by simpa only [DenC] using x
  | _, .ro sz n f, _, x => by
    simp only [DenC] at x ⊢
    obtain ⟨a, cap, h1, h2, h3⟩ := x
    refine ⟨a, cap, h1, h2, fun hn => ?_⟩
    obtain ⟨b, o, g1, g2⟩ := h3 hn
    refine ⟨b, o, g1, fun i hi => ?_⟩
    obtain ⟨us, u1, u2, u3⟩ := g2 i hi
    exact ⟨us, u1, by unfold MemAt at u2 ⊢; rw [← hO]; exact u2, denC_cong hO _ (f i) us u3⟩
  | _, .roi k l, _, x => by
    simp only [DenC] at x ⊢
    obtain ⟨a, cap, h1, h2, h3, h4⟩ := x
    refine ⟨a, cap, h1, h2, fun hn => ?_, h4⟩
    obtain ⟨b, o, g1, g2⟩ := h3 hn
    exact ⟨b, o, g1, by unfold MemAt at g2 ⊢; rw [← hO]; exact g2⟩
  | _, .rob q k l, _, x => by
    simp only [DenC] at x ⊢
    obtain ⟨a, cap, h1, h2, h3, h4⟩ := x
    refine ⟨a, cap, h1, h2, fun hn => ?_, h4⟩
    obtain ⟨b, o, g1, g0, g2⟩ := h3 hn
    exact ⟨b, o, g1, g0, by unfold MemAt at g2 ⊢; rw [← hO]; exact g2⟩
  | _, .rop v, _, x => by
    simp only [DenC] at x ⊢
    obtain ⟨b, o, us, h1, h2, h3⟩ := x
    exact ⟨b, o, us, h1, by unfold MemAt at h2 ⊢; rw [← hO]; exact h2, denC_cong hO _ v us h3⟩
  | ρ, .agg cs, vs, x => by
    simp only [DenC] at x ⊢
    exact denL_cong hO ρ cs vs x
  | ρ, .tuple ws, _, x => by
    simp only [DenC] at x ⊢
    obtain ⟨arr, h1, h2⟩ := x
    exact ⟨arr, h1, denT_cong hO ρ ws _ h2⟩
  | ρ, .func g first cap, _, x => by
    simp only [DenC] at x ⊢
    obtain ⟨a, c, h1, h2, h3⟩ := x
    exact ⟨a, c, h1, denT_cong hO ρ first _ h2, denT_cong hO ρ cap _ h3⟩
theorem denL_cong (hO : O.mem = O1.mem) : ∀ (ρ : Rho) (cs : List SV) (vs : List Value), DenL w0 O ρ cs vs → DenL w1 O1 ρ cs vs
  | _, [], _, x => by simpa [DenL] using x
  | ρ, c :: cs, vs, x => by
    simp only [DenL] at x ⊢
    obtain ⟨v, r, h1, h2, h3, h4⟩ := x
    exact ⟨v, r, h1, denC_cong hO ρ c _ h2, h3, denL_cong hO ρ cs r h4⟩
theorem denT_cong (hO : O.mem = O1.mem) : ∀ (ρ : Rho) (cs : List SV) (vs : List Value), DenT w0 O ρ cs vs → DenT w1 O1 ρ cs vs
  | _, [], _, x => by simpa [DenT] using x
  | ρ, c :: cs, vs, x => by
    simp only [DenT] at x ⊢
    obtain ⟨v, r, h1, h2, h4⟩ := x
    exact ⟨v, r, h1, h2.imp id (fun y => ⟨y.1, denC_cong hO ρ c _ y.2⟩), denT_cong hO ρ cs r h4⟩
end

theorem denV_cong (hO : O.mem = O1.mem) {c : SV} {v : Value} (h : DenV w0 O ρ c v) : DenV w1 O1 ρ c v :=
  h.imp id fun y => ⟨y.1, denC_cong hO ρ c _ y.2⟩

/-! ### chunks -/
/-- a change of what cells stand for -/
def Turn (w0 : World) (O : Own) (ρ : Rho) (w1 : World) (O1 : Own) (ρ1 : Rho) (t : SV → SV) (c : SV) : Prop := ∀ vs, DenC w0 O ρ c vs → DenC w1 O1 ρ1 (t c) vs

variable {w : World} {f : Nat → Option Nat}

theorem cells_mapB (f : Nat → Option Nat) (bd : Body) : cellsOf (mapB f bd) = (cellsOf bd).map (mapC f) := by
  have hl : ∀ cs : List SV, mapL f cs = cs.map (mapC f) := fun cs => by
    apply List.ext_getElem?; intro j; rw [mapL_get]; simp
  cases bd with
  | cells cs => simp [mapB, cellsOf, hl]
  | ints k l => simp [mapB, cellsOf, mapC]
  | lists q k l => simp [mapB, cellsOf, mapC]
  | rows ks l =>
    have : ∀ (ks : List IntKind) (r : List Int), (List.zipWith SV.int ks r).map (mapC f) = List.zipWith SV.int ks r := by
      intro ks r
      apply List.ext_getElem?; intro j
      rw [List.getElem?_map]
      cases h : (List.zipWith SV.int ks r)[j]? with
      | none => rfl
      | some v =>
        rw [List.getElem?_zipWith] at h
        split at h
        · simp at h; subst h; simp [mapC]
        · simp at h
    simp only [mapB, cellsOf, List.map_flatten, List.map_map]
    congr 1
    apply List.map_congr_left
    intro r _
    exact (this ks r).symm
  | grow ks l =>
    have : ∀ (ks : List IntKind) (r : List Int), (List.zipWith SV.int ks r).map (mapC f) = List.zipWith SV.int ks r := by
      intro ks r
      apply List.ext_getElem?; intro j
      rw [List.getElem?_map]
      cases h : (List.zipWith SV.int ks r)[j]? with
      | none => rfl
      | some v =>
        rw [List.getElem?_zipWith] at h
        split at h
        · simp at h; subst h; simp [mapC]
        · simp at h
    simp only [mapB, cellsOf, List.map_flatten, List.map_map]
    congr 1
    apply List.map_congr_left
    intro r _
    exact (this ks r).symm
  | log l => simp [mapB, cellsOf]

theorem cellsAt_turn {t : SV → SV} {b base : Nat} {cs : List SV} (h : ∀ c ∈ cs, Turn w0 O ρ w1 O1 ρ1 t c) (x : CellsAt w0 O ρ w b base cs) : CellsAt w1 O1 ρ1 w b base (cs.map t) := by
  intro j c hc
  rw [List.getElem?_map] at hc
  cases hj : cs[j]? with
  | none => simp [hj] at hc
  | some c0 =>
    simp [hj] at hc; subst hc
    obtain ⟨v, g1, g2, g3⟩ := x j c0 hj
    exact ⟨v, g1, h c0 (List.mem_of_getElem? hj) _ g2, g3⟩

theorem ecount_mapB (f : Nat → Option Nat) (bd : Body) : ecount (mapB f bd) = ecount bd ∧ esz (mapB f bd) = esz bd ∧ (bodyOk bd → bodyOk (mapB f bd)) := by
  cases bd <;> simp [mapB, ecount, esz, bodyOk, mapL_length]

theorem ownAt_map {bd : Body} (h : ∀ c ∈ cellsOf bd, Turn w0 O ρ w1 O1 ρ1 (mapC f) c) {loc : Option (Nat × Nat)} {len cap : Nat} {F : Foot} (x : OwnAt w0 O ρ w bd loc len cap F) : OwnAt w1 O1 ρ1 w (mapB f bd) loc len cap F := by
  obtain ⟨h1, h2, h3, h4⟩ := x
  obtain ⟨e1, e2, e3⟩ := ecount_mapB f bd
  refine ⟨h1.trans e1.symm, h2, e3 h3, ?_⟩
  cases loc with
  | none => exact h4
  | some y =>
    rw [e2]
    refine ⟨h4.1, ?_, h4.2.2⟩
    rw [cells_mapB]; exact cellsAt_turn h h4.2.1

theorem holds_map {bd : Body} (hm : O.mem = O1.mem) (hml : O.lent = O1.lent) (h : ∀ c ∈ cellsOf bd, Turn w0 O ρ w1 O1 ρ1 (mapC f) c) {hd : Hd} {F : Foot} (x : Holds w0 O ρ w bd hd F) : Holds w1 O1 ρ1 w (mapB f bd) hd F := by
  have rowc : ∀ (l : List (List Int)) {loc : Option (Nat × Nat)} {len cap : Nat} {F : Foot}, OwnAt w0 O ρ w (.rows [.i64, .i64] l) loc len cap F → OwnAt w1 O1 ρ1 w (.rows [.i64, .i64] l) loc len cap F := by
    intro l loc len cap F y
    refine ownAt_clean rfl y
  cases bd with
  | log l =>
    cases hd with
    | sl a b c => exact x
    | «at» b base =>
      obtain ⟨loc, len, cap, F1, h1, h2, h3, h4, h5, h6, h7⟩ := x
      exact ⟨loc, len, cap, F1, h1, h2, h3, h4, h5, rowc _ h6, h7⟩
  | cells cs =>
    cases hd with
    | «at» b base =>
      obtain ⟨q1, q2, q3⟩ := x
      refine ⟨trivial, ?_, ?_⟩
      · have : (cellsOf (mapB f (.cells cs))).length = (cellsOf (.cells cs)).length := by rw [cells_mapB]; simp
        show Rng F b base (cellsOf (mapB f (.cells cs))).length
        rw [this]; exact q2
      · show CellsAt w1 O1 ρ1 w b base (cellsOf (mapB f (.cells cs)))
        rw [cells_mapB]; exact cellsAt_turn h q3
    | sl a b c => exact x.elim
  | ints k l =>
    cases hd with
    | «at» b base => exact ⟨x.1, x.2.1, cellsAt_clean (cells_clean rfl) x.2.2⟩
    | sl a b c => exact ownAt_clean rfl x
  | lists q k l =>
    have hlen : (cellsOf (mapB f (.lists q k l))).length = (cellsOf (.lists q k l)).length := by rw [cells_mapB]; simp
    cases hd with
    | «at» b base => exact ⟨trivial, by show Rng F b base (cellsOf (mapB f (.lists q k l))).length; rw [hlen]; exact x.2.1, by show CellsAt w1 O1 ρ1 w b base (cellsOf (mapB f (.lists q k l))); rw [cells_mapB]; exact cellsAt_turn h x.2.2⟩
    | sl a b c => exact ownAt_map h x
  | rows ks l =>
    cases hd with
    | «at» b base => exact ⟨x.1, x.2.1, cellsAt_clean (cells_clean rfl) x.2.2⟩
    | sl a b c => exact ownAt_clean rfl x
  | grow ks l =>
    cases hd with
    | «at» b base => exact x.elim
    | sl a b c =>
      obtain ⟨n, F0, h1, h2, h3, h4⟩ := x
      exact ⟨n, F0, h1, ownAt_map h h2, h3, by rw [← hm, ← hml]; exact h4⟩

/-! ### the numbers 0, 1, .. -/
theorem idxF_spec : ∀ (ids : List Nat) (id j k : Nat), idxF id ids j = some k → j ≤ k ∧ ids[k - j]? = some id
  | [], _, _, _, h => by simp [idxF] at h
  | x :: r, id, j, k, h => by
    simp only [idxF] at h
    split at h
    · rename_i hb
      have := Nat.eq_of_beq_eq_true hb
      simp at h; subst h; subst this; simp
    · obtain ⟨h1, h2⟩ := idxF_spec r id (j + 1) k h
      refine ⟨by omega, ?_⟩
      rw [show k - j = (k - (j + 1)) + 1 by omega]; simpa using h2
theorem idx_spec {ids : List Nat} {id j : Nat} (h : idx ids id = some j) : ids[j]? = some id := by
  have := (idxF_spec ids id 0 j h).2; simpa using this

def renH (H : Nat → Option Body) (ids : List Nat) : Nat → Option Body := fun j => ((ids[j]?).bind H).map (mapB (idx ids))

theorem inR_idx (ρ : Rho) (ids : List Nat) : ∀ id h j, ρ id = some h → idx ids id = some j → inR ρ ids j = some h := fun id h j h1 h2 => by
  simp [inR, idx_spec h2, h1]

variable {H : Nat → Option Body} {Φ : Nat → Foot}

/-- some chunks, under the numbers 0, 1, .. -/
theorem relH_ren (x : RelH w0 O ρ H w Φ) {ids : List Nat} (hnd : ids.Nodup) : RelH w0 O (inR ρ ids) (renH H ids) w (inF Φ ids) := by
  have get : ∀ {j : Nat}, renH H ids j ≠ none → ∃ id, ids[j]? = some id ∧ H id ≠ none := fun {j} hj => by
    unfold renH at hj
    cases e : ids[j]? with
    | none => simp [e] at hj
    | some id => exact ⟨id, rfl, by simpa [e] using hj⟩
  refine ⟨x.frame, fun j bd hb => ?_, fun j j' b o hne h1 h2 g1 g2 => ?_, fun j b o h1 g1 => ?_⟩
  · obtain ⟨id, e, hn⟩ := get (by rw [hb]; simp)
    obtain ⟨bd0, hb0⟩ : ∃ b, H id = some b := by cases e : H id with | none => exact absurd e hn | some b => exact ⟨b, rfl⟩
    have hb' : bd = mapB (idx ids) bd0 := by simp [renH, e, hb0] at hb; exact hb.symm
    subst hb'
    obtain ⟨hd, q1, q2⟩ := x.holds id bd0 hb0
    refine ⟨hd, by simp [inR, e, q1], ?_⟩
    simp only [inF, e]
    exact holds_map rfl rfl (fun c _ vs h => denC_map (inR_idx ρ ids) c vs h) q2
  · obtain ⟨id, e, hn⟩ := get h1
    obtain ⟨id', e', hn'⟩ := get h2
    simp only [inF, e] at g1
    simp only [inF, e'] at g2
    refine x.disj id id' b o (fun h => hne ?_) hn hn' g1 g2
    subst h
    exact nodup_inj hnd e e'
  · obtain ⟨id, e, hn⟩ := get h1
    simp only [inF, e] at g1
    exact x.mine id b o hn g1


theorem nodupB_spec : ∀ {ids : List Nat}, nodupB ids = true → ids.Nodup
  | [], _ => List.nodup_nil
  | x :: r, h => by
    simp only [nodupB, Bool.and_eq_true] at h
    refine List.nodup_cons.2 ⟨fun hx => ?_, nodupB_spec h.2⟩
    have : ∀ (l : List Nat) (j : Nat), x ∈ l → (idxF x l j).isSome = true := by
      intro l
      induction l with
      | nil => intro j h; simp at h
      | cons y l ih =>
        intro j h
        simp only [idxF]
        split
        · rfl
        · rename_i hb
          rcases List.mem_cons.1 h with e | e
          · subst e; rw [Nat.beq_refl] at hb; simp at hb
          · exact ih _ e
    have h1 := this r 0 hx
    have h2 := h.1
    unfold idx at h2
    cases e : idxF x r 0 with
    | none => rw [e] at h1; simp at h1
    | some j => rw [e] at h2; simp at h2

theorem idxF_succ (id : Nat) : ∀ (l : List Nat) (j : Nat), idxF id l (j + 1) = (idxF id l j).map (· + 1)
  | [], j => by simp [idxF]
  | x :: l, j => by
    simp only [idxF]
    split
    · simp
    · exact idxF_succ id l (j + 1)
theorem idx_cons (x : Nat) (l : List Nat) (id : Nat) : idx (x :: l) id = if x = id then some 0 else (idx l id).map (· + 1) := by
  unfold idx
  simp only [idxF]
  split
  · rename_i h; rw [if_pos (Nat.eq_of_beq_eq_true h)]
  · rename_i h
    rw [if_neg (fun e => by subst e; rw [Nat.beq_refl] at h; simp at h)]
    exact idxF_succ id l 0
theorem idx_none {ids : List Nat} {id : Nat} (h : id ∉ ids) : idx ids id = none := by
  cases e : idx ids id with
  | none => rfl
  | some j => exact absurd (List.mem_of_getElem? (idx_spec e)) h
theorem idx_some {ids : List Nat} (hnd : ids.Nodup) {id j : Nat} (h : ids[j]? = some id) : idx ids id = some j := by
  induction ids generalizing j with
  | nil => simp at h
  | cons x l ih =>
    obtain ⟨h1, h2⟩ := List.nodup_cons.1 hnd
    rw [idx_cons]
    cases j with
    | zero => simp at h; rw [if_pos h]
    | succ j =>
      simp at h
      have : x ≠ id := fun e => h1 (e ▸ List.mem_of_getElem? h)
      rw [if_neg this, ih h2 h]; rfl

theorem gather_spec {H : Nat → Option Body} : ∀ {ids : List Nat} {B : List Body}, gather H ids = some B → B.length = ids.length ∧ ∀ j : Nat, (ids[j]?).bind H = B[j]?
  | [], B, h => by simp [gather] at h; subst h; simp
  | id :: r, B, h => by
    simp only [gather] at h
    split at h
    · rename_i b bs h1 h2
      simp only [Option.some.injEq] at h; subst h
      obtain ⟨g1, g2⟩ := gather_spec h2
      refine ⟨by simp [g1], fun j => ?_⟩
      cases j with
      | zero => simp [h1]
      | succ j => simpa using g2 j
    · simp at h

theorem newAll_get : ∀ (l : List Body) (n : Nat) (H : Nat → Option Body) (i : Nat), newAll l n H i = if n ≤ i ∧ i < n + l.length then l[i - n]? else H i
  | [], n, H, i => by simp only [newAll, List.length_nil, Nat.add_zero]; rw [if_neg (by omega)]
  | b :: l, n, H, i => by
    simp only [newAll, newAll_get l, upH, List.length_cons]
    by_cases e : i = n
    · subst e; rw [if_neg (by omega), if_pos rfl, if_pos (by omega)]; simp
    · rw [if_neg e]
      by_cases h : n + 1 ≤ i ∧ i < n + 1 + l.length
      · rw [if_pos h, if_pos (by omega), show i - n = (i - (n + 1)) + 1 by omega]; simp
      · rw [if_neg h, if_neg (by omega)]

/-- chunks under 0, 1, .. -/
def BH (B : List Body) : Nat → Option Body := fun j => B[j]?

theorem renH_gather {H : Nat → Option Body} {ids : List Nat} {B : List Body} (h : gather H ids = some B) : renH H ids = BH (B.map (mapB (idx ids))) := by
  funext j
  unfold renH BH
  rw [(gather_spec h).2 j, List.getElem?_map]

/-! ### a part of memory, looked at alone -/
section
variable {w0 : World} {O : Own} {ρ : Rho} {w : World} {H : Nat → Option Body} {Φ : Nat → Foot}

theorem rel_in (x : RelH w0 O ρ H w Φ) {ids : List Nat} (hnd : ids.Nodup) (hHi : ∀ id ∈ ids, H id ≠ none) : RelH w (inO O Φ ids) (inR ρ ids) (renH H ids) w (inF Φ ids) := by
  have get : ∀ {j : Nat}, renH H ids j ≠ none → ∃ id, ids[j]? = some id ∧ H id ≠ none := fun {j} hj => by
    unfold renH at hj
    cases e : ids[j]? with
    | none => simp [e] at hj
    | some id => exact ⟨id, rfl, by simpa [e] using hj⟩
  refine ⟨Frame.refl _ _ (fun b o _ ⟨id, m, hF⟩ => x.quiet (hHi id m) hF) (fun b o v hm => ?_), fun j bd hb => ?_, fun j j' b o hne h1 h2 g1 g2 => ?_, fun j b o h1 g1 => ?_⟩
  · obtain ⟨q1, q2⟩ := x.frame.mem b o v hm
    refine ⟨x.frame.cell q1 q2, fun ⟨id, m, hF⟩ => q2 ((x.mine id b o (hHi id m) hF).2 (World.block_lt_of_cell? w0 _ q1))⟩
  · obtain ⟨id, e, hn⟩ := get (by rw [hb]; simp)
    obtain ⟨bd0, hb0⟩ : ∃ b, H id = some b := by cases e : H id with | none => exact absurd e hn | some b => exact ⟨b, rfl⟩
    have hb' : bd = mapB (idx ids) bd0 := by simp [renH, e, hb0] at hb; exact hb.symm
    subst hb'
    obtain ⟨hd, q1, q2⟩ := x.holds id bd0 hb0
    refine ⟨hd, by simp [inR, e, q1], ?_⟩
    simp only [inF, e]
    exact holds_map (w0 := w0) (O := O) (O1 := inO O Φ ids) rfl rfl (fun c _ vs h => denC_cong (O := O) (O1 := inO O Φ ids) rfl _ _ _ (denC_map (w0 := w0) (inR_idx ρ ids) c vs h)) q2
  · obtain ⟨id, e, hn⟩ := get h1
    obtain ⟨id', e', hn'⟩ := get h2
    simp only [inF, e] at g1
    simp only [inF, e'] at g2
    refine x.disj id id' b o (fun h => hne ?_) hn hn' g1 g2
    subst h
    exact nodup_inj hnd e e'
  · obtain ⟨id, e, hn⟩ := get h1
    simp only [inF, e] at g1
    exact ⟨(x.mine id b o hn g1).1, fun _ => ⟨id, List.mem_of_getElem? e, g1⟩⟩

def outF (src : Nat → Option Nat) (Φ Φ2 : Nat → Foot) : Nat → Foot := fun id => match src id with | some j => Φ2 j | none => Φ id

theorem rel_out (x : RelH w0 O ρ H w Φ) {ids : List Nat} (hHi : ∀ id ∈ ids, H id ≠ none) {src back : Nat → Option Nat} {ρ2 ρ' : Rho} {H2 H' : Nat → Option Body} {Φ2 : Nat → Foot} {w2 : World}
    (x2 : RelH w (inO O Φ ids) ρ2 H2 w2 Φ2) (hE : Ext ρ ρ') (hinj : ∀ id id' j, src id = some j → src id' = some j → id = id')
    (hback : ∀ j h id, ρ2 j = some h → back j = some id → ρ' id = some h) (hρ : ∀ id j h, src id = some j → ρ2 j = some h → ρ' id = some h)
    (hH1 : ∀ id j, src id = some j → H' id = (H2 j).map (mapB back)) (hH2 : ∀ id, src id = none → id ∈ ids → H' id = none) (hH3 : ∀ id, src id = none → id ∉ ids → H' id = H id) :
    RelH w0 O ρ' H' w2 (outF src Φ Φ2) := by
  have notin : ∀ id b o, id ∉ ids → H id ≠ none → Φ id b o → ¬ ∃ id', id' ∈ ids ∧ Φ id' b o := fun id b o hn hH hF ⟨id', m1, m2⟩ => by
    exact x.disj id id' b o (fun e => hn (e ▸ m1)) hH (hHi id' m1) hF m2
  have sep : ∀ id j b o, id ∉ ids → H id ≠ none → Φ id b o → H2 j ≠ none → Φ2 j b o → False := fun id j b o hn hH hF hH2 hF2 =>
    notin id b o hn hH hF ((x2.mine j b o hH2 hF2).2 (x.mine id b o hH hF).1)
  have of1 : ∀ id j, src id = some j → H' id ≠ none → H2 j ≠ none := fun id j hs hn e => hn (by rw [hH1 id j hs, e]; rfl)
  have of2 : ∀ id, src id = none → H' id ≠ none → id ∉ ids ∧ H id ≠ none := fun id hs hn => by
    by_cases hm : id ∈ ids
    · exact absurd (hH2 id hs hm) hn
    · exact ⟨hm, by rw [← hH3 id hs hm]; exact hn⟩
  have hfr : Frame w0 O w2 := x.frame.comp x2.frame fun b o hb ⟨id, m1, m2⟩ => (x.mine id b o (hHi id m1) m2).2 hb
  refine ⟨hfr, fun id bd hb => ?_, fun id id' b o hne h1 h2 g1 g2 => ?_, fun id b o h1 g1 => ?_⟩
  · cases hsrc : src id with
    | some j =>
      have hb' := hb
      rw [hH1 id j hsrc] at hb'
      cases hj : H2 j with
      | none => rw [hj] at hb'; simp at hb'
      | some b2 =>
        rw [hj] at hb'; simp at hb'; subst hb'
        obtain ⟨hd, q1, q2⟩ := x2.holds j b2 hj
        refine ⟨hd, hρ id j hd hsrc q1, ?_⟩
        simp only [outF, hsrc]
        exact holds_map (w0 := w) (O := inO O Φ ids) (O1 := O) rfl rfl (fun c _ vs h => denC_cong (O := inO O Φ ids) (O1 := O) rfl _ _ _ (denC_map (w0 := w) (fun j h id a b => hback j h id a b) c vs h)) q2
    | none =>
      obtain ⟨hni, hHn⟩ := of2 id hsrc (by rw [hb]; simp)
      rw [hH3 id hsrc hni] at hb
      obtain ⟨hd, q1, q2⟩ := x.holds id bd hb
      refine ⟨hd, hE id hd q1, ?_⟩
      simp only [outF, hsrc]
      refine (q2.mono hE).same (fun b o hF => ?_) (fun b o v hv => x.frame.memSame hfr hv)
      have hlt := (x.mine id b o hHn hF).1
      have hnb := notin id b o hni hHn hF
      have hcell : w2.cell? (adr b o) = w.cell? (adr b o) := by
        have hk := x2.frame.block b hlt
        show (match w2.heap[b]? with | some (.cells c _ _) => c[o]? | _ => none) = (match w.heap[b]? with | some (.cells c _ _) => c[o]? | _ => none)
        cases hbl : w.heap[b]? with
        | none => rw [hbl] at hk; simp only [Kept] at hk; rw [hk]
        | some ob =>
          rw [hbl] at hk
          cases ob
          case cells c t fr => obtain ⟨c', f', e, _, h3, _⟩ := hk; rw [e]; exact h3 o hnb
          all_goals (simp only [Kept] at hk; rw [hk])
      obtain ⟨v, hv⟩ := q2.live hF
      exact ⟨hcell, x2.frame.frozen hlt hv (hcell.trans hv)⟩
  · cases hsrc : src id with
    | some j =>
      simp only [outF, hsrc] at g1
      cases hsrc' : src id' with
      | some j' =>
        simp only [outF, hsrc'] at g2
        exact x2.disj j j' b o (fun e => hne (hinj id id' j hsrc (e ▸ hsrc'))) (of1 _ _ hsrc h1) (of1 _ _ hsrc' h2) g1 g2
      | none =>
        simp only [outF, hsrc'] at g2
        obtain ⟨q1, q2⟩ := of2 id' hsrc' h2
        exact sep id' j b o q1 q2 g2 (of1 _ _ hsrc h1) g1
    | none =>
      simp only [outF, hsrc] at g1
      obtain ⟨p1, p2⟩ := of2 id hsrc h1
      cases hsrc' : src id' with
      | some j' =>
        simp only [outF, hsrc'] at g2
        exact sep id j' b o p1 p2 g1 (of1 _ _ hsrc' h2) g2
      | none =>
        simp only [outF, hsrc'] at g2
        exact x.disj id id' b o hne p2 (of2 id' hsrc' h2).2 g1 g2
  · cases hsrc : src id with
    | some j =>
      simp only [outF, hsrc] at g1
      have hj := of1 id j hsrc h1
      refine ⟨(x2.mine j b o hj g1).1, fun hb => ?_⟩
      obtain ⟨id', m1, m2⟩ := (x2.mine j b o hj g1).2 (Nat.lt_of_lt_of_le hb x.frame.size)
      exact (x.mine id' b o (hHi id' m1) m2).2 hb
    | none =>
      simp only [outF, hsrc] at g1
      obtain ⟨_, p2⟩ := of2 id hsrc h1
      exact ⟨Nat.lt_of_lt_of_le (x.mine id b o p2 g1).1 x2.frame.size, (x.mine id b o p2 g1).2⟩

theorem glob_cong {g : Ctx} {w1 : World} {O1 : Own} (hO : O.mem = O1.mem) (h : GlobOk g w0 O) : GlobOk g w1 O1 := fun n v hn => by
  obtain ⟨us, h1, h2⟩ := h n v hn
  exact ⟨us, by unfold MemAt at h1 ⊢; rw [← hO]; exact h1, denC_cong hO _ _ _ h2⟩

/-! ### a piece of code, from some slots and chunks to others -/
/-- of the chunks the first m are what they were -/
def SimC (P : Program) (w0 : World) (O : Own) (nT : Nat) (c : Code) (S : List (Nat × SV)) (B : List Body) (e : Ex) (S' : List (Nat × SV)) (B' : List Body) (m : Nat) : Prop :=
  ∀ ρ Φ a w, RelA nT w0 O ρ (tget (mkT S)) (BH B) Φ a w → (∀ j, B.length ≤ j → ρ j = none) →
    wpL P c (fun e' a' w' => e' = e.up ∧ ∃ ρ' Φ', (∀ j h, j < m → ρ j = some h → ρ' j = some h) ∧ (∀ j, B'.length ≤ j → ρ' j = none) ∧ RelA nT w0 O ρ' (tget (mkT S')) (BH B') Φ' a' w') a w

theorem wpL_mono {P : Program} {c : Code} {Q Q' : Exit → Act → World → Prop} {a : Act} {w : World} (h : wpL P c Q a w) (hq : ∀ e a' w', Q e a' w' → Q' e a' w') : wpL P c Q' a w := by
  cases c
  case loop c => intro b k cs; obtain ⟨e, a', w', q, r⟩ := h b k cs; exact ⟨e, a', w', hq _ _ _ q, r⟩
  all_goals exact wp_mono h hq

/-- a loop's account is right -/
def LoopGood (g : Ctx) : SimT := fun nT c keep m e G =>
  ∀ vals B S' B' C, G vals B = some (S', B', C) → AllC C → vals.length = keep.length → ∀ w0 O, GlobOk g w0 O → SimC g.P w0 O nT c (keep.zip vals) B e S' B' m

theorem tget_map (f : Nat → Option Nat) : ∀ (l : List (Nat × SV)) (t : Nat), (∀ y ∈ l, y.1 < 65535) → tget (mkT (l.map fun y => (y.1, mapC f y.2))) t = mapC f (tget (mkT l) t)
  | [], t, _ => by simp [mkT, tget, Tr.get_lf, mapC]
  | y :: l, t, h => by
    have h1 : tget (mkT ((y :: l).map fun y => (y.1, mapC f y.2))) t = if t = y.1 then mapC f y.2 else tget (mkT (l.map fun y => (y.1, mapC f y.2))) t := Tr.get_set _ _ _ _ _ (h y (by simp))
    have h2 : tget (mkT (y :: l)) t = if t = y.1 then y.2 else tget (mkT l) t := Tr.get_set _ _ _ _ _ (h y (by simp))
    rw [h1, h2, tget_map f l t fun z hz => h z (by simp [hz])]
    split <;> rfl

theorem loopUpd_get : ∀ {ids : List Nat} {m : Nat} {bs : List Body} {H : Nat → Option Body} {id : Nat}, ids.Nodup → m ≤ ids.length → m ≤ bs.length →
    updAll (loopUpd ids m bs) H id = match idx ids id with | some j => if j < m then bs[j]? else none | none => H id
  | [], m, bs, H, id, _, hm, _ => by
    have : m = 0 := by simpa using hm
    subst this
    simp [loopUpd, updAll, idx, idxF]
  | x :: r, m, bs, H, id, hnd, hm, hb => by
    obtain ⟨h1, h2⟩ := List.nodup_cons.1 hnd
    rw [idx_cons]
    have stay : ∀ (m' : Nat) (bs' : List Body) (b : Option Body), m' ≤ r.length → m' ≤ bs'.length → updAll (loopUpd r m' bs') (upH H x b) id = if x = id then b else (match idx r id with | some j => if j < m' then bs'[j]? else none | none => H id) := fun m' bs' b g1 g2 => by
      rw [loopUpd_get h2 g1 g2]
      by_cases e : x = id
      · subst e
        rw [if_pos rfl, idx_none h1]
        simp [upH]
      · rw [if_neg e]
        cases idx r id with
        | none => simp only [upH]; rw [if_neg (fun h => e (Eq.symm h))]
        | some j => rfl
    cases m with
    | zero =>
      simp only [loopUpd, updAll]
      rw [stay 0 [] none (Nat.zero_le _) (Nat.zero_le _)]
      by_cases e : x = id
      · rw [if_pos e, if_pos e]; simp
      · rw [if_neg e, if_neg e]
        cases idx r id <;> simp
    | succ m =>
      cases bs with
      | nil => simp at hb
      | cons b bs =>
        simp only [loopUpd, updAll]
        rw [stay m bs (some b) (by simpa using hm) (by simpa using hb)]
        by_cases e : x = id
        · rw [if_pos e, if_pos e]; simp
        · rw [if_neg e, if_neg e]
          cases idx r id <;> simp
end


theorem mapL_eq (f : Nat → Option Nat) (cs : List SV) : mapL f cs = cs.map (mapC f) := by
  apply List.ext_getElem?; intro j; rw [mapL_get]; simp

theorem loop_ok {w0 : World} {O : Own} {g : Ctx} {nT m : Nat} {c : Code} {keep : List Nat} {e : Ex} {G : LoopF} {T T' : Tmps} {H H' : Heap} {C : List Prop} (hg : LoopGood g nT c keep m e G) (h : applyLoop keep m G T H = some (T', H', C)) (hC : AllC C)
    (hG : GlobOk g w0 O) : Sim g.P w0 O nT c T H e T' H' := by
  unfold applyLoop at h
  simp only at h
  generalize hids : closeIds (hget H) 3 (refsL (keep.map (tget T)) []) = ids at h
  split at h
  · simp at h
  rename_i B hB
  split at h
  · simp at h
  rename_i S' B' C' hGv
  split at h
  · rename_i hck
    simp only [Bool.and_eq_true, Nat.blt_eq, List.all_eq_true] at hck
    obtain ⟨k1, k2, k3, k4, k5, k6⟩ := hck
    have k1 := Nat.le_of_ble_eq_true k1
    have k2 := Nat.le_of_ble_eq_true k2
    have hnd := nodupB_spec k3
    simp only [Option.some.injEq, Prod.mk.injEq] at h
    obtain ⟨rfl, rfl, rfl⟩ := h
    obtain ⟨hap, hnx⟩ := hget_apply k6
    generalize hback : backL ids m H.nx = back at *
    have hBl := (gather_spec hB).1
    have hlen : ((B'.map (mapB back)).drop m).length = B'.length - m := by simp
    refine ⟨by rw [hnx]; simp, fun ρ Φ a w r hf => ?_⟩
    rw [hnx] at hf ⊢
    simp only [hlen] at hf ⊢
    have hHi : ∀ id ∈ ids, hget H id ≠ none := fun id hid e => by
      obtain ⟨j, hj⟩ := List.getElem?_of_mem hid
      have := (gather_spec hB).2 j
      rw [hj] at this
      simp only [Option.bind_some, e] at this
      have hj2 : j < ids.length := (List.getElem?_eq_some_iff.1 hj).1
      rw [List.getElem?_eq_getElem (by omega)] at this
      simp at this
    have hrho : ∀ id ∈ ids, ∃ h, ρ id = some h := fun id hid => by
      have := hHi id hid
      cases e : hget H id with
      | none => exact absurd e this
      | some b => obtain ⟨hd, q, _⟩ := r.heap.holds id b e; exact ⟨hd, q⟩
    have hold : ∀ id ∈ ids, ¬ (H.nx ≤ id ∧ id < H.nx + (B'.length - m)) := fun id hid ⟨a, b⟩ => by
      obtain ⟨h, hh⟩ := hrho id hid
      rw [hf id a b] at hh; simp at hh
    have xin := rel_in r.heap hnd hHi
    rw [renH_gather hB] at xin
    have hst : RelA nT w (inO O Φ ids) (inR ρ ids) (tget (mkT (keep.zip (mapL (idx ids) (keep.map (tget T)))))) (BH (B.map (mapB (idx ids)))) (inF Φ ids) a w := by
      refine ⟨r.size, r.defers, fun t => ?_, xin⟩
      have hz : ∀ y ∈ keep.zip (mapL (idx ids) (keep.map (tget T))), y.1 < 65535 ∧ y.2 = mapC (idx ids) (tget T y.1) := fun y hy => by
        rw [mapL_eq, List.map_map] at hy
        rw [List.mem_iff_getElem?] at hy
        obtain ⟨i, hi⟩ := hy
        rw [List.getElem?_zip_eq_some] at hi
        obtain ⟨i1, i2⟩ := hi
        refine ⟨k5 _ (List.mem_of_getElem? i1), ?_⟩
        rw [List.getElem?_map, i1] at i2
        simpa using i2.symm
      rcases tget_mkT _ t fun y hy => (hz y hy).1 with e | ⟨y, h1, h2, h3⟩
      · rw [e]; exact .inl rfl
      · rw [h3, (hz y h1).2, h2]
        exact denV_cong (O := O) (O1 := inO O Φ ids) rfl (denV_map (w0 := w0) (inR_idx ρ ids) (r.tmps t))
    have hlen2 : (mapL (idx ids) (keep.map (tget T))).length = keep.length := by rw [mapL_length]; simp
    have hs := hg _ _ _ _ _ hGv hC hlen2 w (inO O Φ ids) (glob_cong (O := O) rfl hG) (inR ρ ids) (inF Φ ids) a w hst (fun j hj => by
      simp only [List.length_map] at hj
      simp [inR, List.getElem?_eq_none (show ids.length ≤ j by omega)])
    refine wpL_mono hs fun e' a' w' ⟨he, ρ2, Φ2, p1, p2, p3⟩ => ⟨he, ?_⟩
    let src : Nat → Option Nat := fun id => match idx ids id with
      | some j => if j < m then some j else none
      | none => if H.nx ≤ id ∧ id < H.nx + (B'.length - m) then some (m + (id - H.nx)) else none
    let ρ' : Rho := fun id => if H.nx ≤ id ∧ id < H.nx + (B'.length - m) then ρ2 (m + (id - H.nx)) else ρ id
    have src1 : ∀ {id j : Nat}, src id = some j → (j < m ∧ ids[j]? = some id) ∨ (m ≤ j ∧ j < B'.length ∧ id = H.nx + (j - m) ∧ id ∉ ids) := by
      intro id j hs
      simp only [src] at hs
      split at hs
      · rename_i j' hj'
        split at hs
        · simp at hs; subst hs; exact .inl ⟨by assumption, idx_spec hj'⟩
        · simp at hs
      · rename_i hn
        split at hs
        · rename_i hr
          simp at hs; subst hs
          refine .inr ⟨by omega, by omega, by omega, fun hm => ?_⟩
          obtain ⟨j, hj⟩ := List.getElem?_of_mem hm
          rw [idx_some hnd hj] at hn; simp at hn
        · simp at hs
    have hE : Ext ρ ρ' := fun id h hh => by
      simp only [ρ']
      split
      · rename_i hr; rw [hf id hr.1 hr.2] at hh; simp at hh
      · exact hh
    have old : ∀ {id j : Nat} {h : Hd}, ids[j]? = some id → j < m → ρ2 j = some h → ρ' id = some h := by
      intro id j h hj hjm hh
      have hid := List.mem_of_getElem? hj
      obtain ⟨h0, q⟩ := hrho id hid
      have : inR ρ ids j = some h0 := by simp [inR, hj, q]
      have := p1 j h0 hjm this
      rw [hh] at this
      simp only [ρ']
      rw [if_neg (hold id hid), q, this]
    have xout := rel_out (src := src) (back := back) (ρ' := ρ') (H' := newH (hget H) H.nx { val := .any, upd := loopUpd ids m (B'.map (mapB back)), new := (B'.map (mapB back)).drop m }) r.heap hHi p3.heap hE
      (by
        intro id id' j h1 h2
        rcases src1 h1 with ⟨a1, a2⟩ | ⟨a1, a2, a3, _⟩ <;> rcases src1 h2 with ⟨b1, b2⟩ | ⟨b1, b2, b3, _⟩
        · rw [a2] at b2; simpa using b2
        · omega
        · omega
        · omega)
      (by
        intro j h id hj hb
        rw [← hback] at hb
        unfold backL at hb
        split at hb
        · rename_i hlt
          exact old hb (Nat.le_of_ble_eq_true hlt) hj
        · rename_i hlt
          have hge : m ≤ j := by
            rcases Nat.lt_or_ge j m with h | h
            · rw [show Nat.blt j m = true from Nat.ble_eq_true_of_le h] at hlt; simp at hlt
            · exact h
          simp at hb; subst hb
          have hjl : j < B'.length := by
            rcases Nat.lt_or_ge j B'.length with h | h
            · exact h
            · rw [p2 j h] at hj; simp at hj
          simp only [ρ']
          rw [if_pos (by omega), show m + (H.nx + (j - m) - H.nx) = j by omega, hj])
      (by
        intro id j h hs hj
        rcases src1 hs with ⟨a1, a2⟩ | ⟨a1, a2, a3, _⟩
        · exact old a2 a1 hj
        · subst a3
          simp only [ρ']
          rw [if_pos (by omega), show m + (H.nx + (j - m) - H.nx) = j by omega, hj])
      (by
        intro id j hs
        unfold newH
        rw [newAll_get]
        simp only [hlen]
        rcases src1 hs with ⟨a1, a2⟩ | ⟨a1, a2, a3, a4⟩
        · rw [if_neg (hold id (List.mem_of_getElem? a2)), loopUpd_get hnd k1 (by simpa using k2), idx_some hnd a2]
          simp only
          rw [if_pos a1]; simp [BH]
        · rw [if_pos (by omega)]
          simp only [BH, List.getElem?_drop, List.getElem?_map]
          rw [show m + (id - H.nx) = j by omega])
      (by
        intro id hs hm
        obtain ⟨j, hj⟩ := List.getElem?_of_mem hm
        have hij := idx_some hnd hj
        simp only [src, hij] at hs
        unfold newH
        rw [newAll_get]
        simp only [hlen]
        rw [if_neg (hold id hm), loopUpd_get hnd k1 (by simpa using k2), hij]
        simp only
        split at hs
        · simp at hs
        · rename_i hjm; rw [if_neg hjm])
      (by
        intro id hs hm
        have hij := idx_none hm
        simp only [src, hij] at hs
        unfold newH
        rw [newAll_get]
        simp only [hlen]
        split at hs
        · simp at hs
        · rename_i hr
          rw [if_neg hr, loopUpd_get hnd k1 (by simpa using k2), hij])
    refine ⟨ρ', outF src Φ Φ2, hE, fun id hne => ?_, p3.size, p3.defers, fun t => ?_, ?_⟩
    · simp only [ρ'] at hne
      split at hne
      · assumption
      · exact absurd rfl hne
    · rw [tget_map back S' t fun y hy => k4 y hy]
      refine denV_cong (O := inO O Φ ids) (O1 := O) rfl (denV_map (w0 := w) (fun j h id hj hb => ?_) (p3.tmps t))
      rw [← hback] at hb
      unfold backL at hb
      split at hb
      · rename_i hlt
        exact old hb (Nat.le_of_ble_eq_true hlt) hj
      · rename_i hlt
        have hge : m ≤ j := by
          rcases Nat.lt_or_ge j m with h | h
          · rw [show Nat.blt j m = true from Nat.ble_eq_true_of_le h] at hlt; simp at hlt
          · exact h
        simp at hb; subst hb
        have hjl : j < B'.length := by
          rcases Nat.lt_or_ge j B'.length with h | h
          · exact h
          · rw [p2 j h] at hj; simp at hj
        simp only [ρ']
        rw [if_pos (by omega), show m + (H.nx + (j - m) - H.nx) = j by omega, hj]
    · rw [hap]; exact xout
  · simp at h

end
end Go.Vx

namespace Go.Vx

/-- what the whole must satisfy -/
structure CtxOk (g : Ctx) (w0 : World) (O : Own) : Prop where
  glob : GlobOk g w0 O
  sums : ∀ (f : FuncId) (σ : Sum), g.sum f = some σ → SumOk g.P w0 O f σ
  mixed : g.P.follows .mixedOrders = true
  names : ∀ (f : FuncId) (fn : Func) (c : Code), g.P.funcs[f]? = some fn → fn.body = some c → (fn.name == "runtime.NumGoroutine") = false

def ESound (g : Ctx) (w0 : World) (O : Own) (E : Nat → List Plan → Code → Tmps → Heap → Option Out) : Prop :=
  ∀ nT pl c T H o, nT < 65535 → E nT pl c T H = some o → AllC o.C → Sim g.P w0 O nT c T H o.e o.T o.H

section
variable {g : Ctx} {w0 : World} {O : Own}

theorem entry_rel {nT : Nat} {args : List SV} {vs : List Value} {ρ : Rho} {H : Nat → Option Body} {Φ : Nat → Foot} {w : World} (hn : nT < 65535) (hl : args.length ≤ nT) (h : DenT w0 O ρ args vs) (x : RelH w0 O ρ H w Φ) :
    RelA nT w0 O ρ (tget (entryT args 0)) H Φ { tmps := vs.toArray ++ Array.replicate (nT - vs.toArray.size) undef, defers := [] } w := by
  obtain ⟨h1, h2⟩ := denT_get h
  refine ⟨by simp; omega, rfl, fun t => ?_, x⟩
  rw [tget_entryT args 0 t (by omega), if_pos (Nat.zero_le _)]
  have := h2 t
  have e : (vs.toArray ++ Array.replicate (nT - vs.toArray.size) undef).getD t undef = (vs[t]?).getD undef := by
    rcases Nat.lt_or_ge t vs.length with h3 | h3
    · simp [Array.getElem?_append, h3]
    · have e1 : vs[t]? = none := List.getElem?_eq_none h3
      have e2 : ∀ z : Array Value, z[t]? = none ∨ z[t]? = some undef → z.getD t undef = undef := fun z hz => by
        rcases hz with hz | hz <;> simp [hz]
      rw [e1]
      refine e2 _ ?_
      rw [Array.getElem?_append_right (by simpa using h3), Array.getElem?_replicate]
      split
      · exact .inr rfl
      · exact .inl rfl
  simp only [Nat.sub_zero]
  rw [e]; exact this

theorem callOf_ok (hc : CtxOk g w0 O) {E : Nat → List Plan → Code → Tmps → Heap → Option Out} (hE : ESound g w0 O E) : CallOk g.P w0 O (callOf g E) := by
  intro f args H pl v H' pl' C h hC
  unfold callOf at h
  split at h
  · rename_i fn hf
    split at h
    · rename_i c hb hn hl
      have hn : fn.ntmps < 65535 := by simpa [fewTmps, Nat.blt_eq] using hn
      have hl : args.length ≤ fn.ntmps := Nat.le_of_ble_eq_true hl
      split at h
      · simp at h
      · rename_i e T H1 pl1 C1 hne ho
        have fin : ∀ vs, retV g.P (hget H1) T fn.results.toList = some vs → v = retSV vs → H' = H1 → C = C1 → H.nx ≤ H'.nx ∧ ∀ ρ Φ us w, DenT w0 O ρ args us → RelH w0 O ρ (hget H) w Φ → (∀ id, H.nx ≤ id → id < H'.nx → ρ id = none) →
            CallR g.P f us.toArray w (Post w0 O ρ H.nx H'.nx (hget H') v) := by
          intro vs hr hv hH hC'
          subst hv; subst hH; subst hC'
          obtain ⟨s1, s2⟩ := hE _ _ _ _ _ _ hn ho hC
          refine ⟨s1, fun ρ Φ us w hd x hfr => .inl ⟨fn, hf, hc.names f fn c hf hb, by rw [hb]; rfl, ?_⟩⟩
          refine calls_of_wp hf hb (wp_mono (wpL_wp (s2 ρ Φ _ w (entry_rel hn hl hd x) hfr)) fun e' a' w' ⟨he, ρ', Φ', q1, q2, q3⟩ => ?_)
          subst he
          obtain ⟨u, r1, r2⟩ := results_den (P := g.P) q3.heap q3.tmps hr
          cases e with
          | normal => exact ⟨q3.defers, u, r1, u, rfl, ρ', Φ', r2, q1, q2, q3.heap⟩
          | exit i => exact (hne i rfl).elim
          | ret => exact ⟨q3.defers, u, r1, u, rfl, ρ', Φ', r2, q1, q2, q3.heap⟩
        split at h
        · rename_i v1 hr
          simp only [Option.some.injEq, Prod.mk.injEq] at h
          obtain ⟨rfl, rfl, _, rfl⟩ := h
          exact fin _ hr rfl rfl rfl
        · rename_i vs hns hr
          simp only [Option.some.injEq, Prod.mk.injEq] at h
          obtain ⟨rfl, rfl, _, rfl⟩ := h
          refine fin _ hr ?_ rfl rfl
          match vs, hns with
          | [], _ => rfl
          | [x], hns => exact absurd rfl (hns x)
          | _ :: _ :: _, _ => rfl
        · simp at h
      · simp at h
    · simp at h
  · simp at h

theorem region_ok (hc : CtxOk g w0 O) {call : CallF} (hK : CallOk g.P w0 O call) {nT id : Nat} (hn : nT < 65535) {ops : Array Oper} {draw : Bool} (hsh : shapeOk nT ops.toList = true) {T : Tmps} {H : Heap} {pl : List Plan} {s : RunSt}
    (h : runOps g call (prep ops.toList) 0 ⟨T, H, pl, [], [], false⟩ = some s) (hd : draw = true → staticOk ops.toList = true ∧ (s.any = false ∨ heapOk s.recs = true)) (hC : AllC s.C) :
    Sim g.P w0 O nT (.region id ops draw) T H .normal s.T s.H := by
  obtain ⟨_, S, pp, d, r, e1, e2⟩ := run_ok hc.glob hc.sums hK hn hsh h hC
  have eT : (S 0).T = T := by rw [e1]
  have eH : (S 0).H = H := by rw [e1]
  have hnx := r.nx_le (Nat.zero_le ops.size) (Nat.le_refl _)
  rw [eH, e2] at hnx
  refine ⟨hnx, fun ρ Φ a w x hf => ?_⟩
  show (Code.region id ops draw).wp _ _ _ _
  have hQ : ∀ a' w', Done nT w0 O ρ (tget (S ops.size).T) (hget (S ops.size).H) (S 0).H.nx (S ops.size).H.nx a' w' →
      (fun e' a' w' => e' = Ex.normal.up ∧ Done nT w0 O ρ (tget s.T) (hget s.H) H.nx s.H.nx a' w') Exit.normal a' w' := fun a' w' h => by
    rw [e2, eH] at h; exact ⟨rfl, h⟩
  cases draw with
  | false =>
    refine wp_region ?_
    rw [List.range_eq_range']
    refine r.text hQ ops.size 0 (by omega) ρ Φ a w (Ext.refl ρ) (fun _ h => absurd rfl h) (by rw [eT, eH]; exact x) (by rw [eH, e2]; exact hf)
  | true =>
    obtain ⟨h1, h2⟩ := hd rfl
    unfold staticOk at h1
    simp only [Bool.and_eq_true] at h1
    refine wp_region_any hc.mixed ?_
    have hrep : (fun x => (Array.replicate ops.size false).getD x false) = fun _ => false := by
      funext i
      rcases Nat.lt_or_ge i ops.size with hi | hi <;> simp [hi]
    refine r.draw ?_ ?_ (fun i o ho e he hb => by have := edgesOk_spec h1.2 i o ho e he hb; omega) hQ ops.size (Array.replicate ops.size false) (by simp) ?_ ?_ ρ Φ a _ (Ext.refl ρ) (fun _ h => absurd rfl h) ?_ ?_
    · intro i j hij hj
      have := tmpsOk_spec h1.1 i j (pp i) (pp j) hij (by simp) (by simpa using r.list i (by omega)) (by simpa using r.list j hj)
      exact this
    · rcases h2 with h2 | h2
      · intro i j hij hj
        have := r.calm (by rw [e2]; exact h2)
        exact .inr (.inr (.inr (.inl ⟨this i (by omega), this j hj⟩)))
      · exact r.recs (by rw [e2]; exact h2)
    · rw [hrep]; intro j o h; simp at h
    · rw [hrep]
      have : ∀ m, unl (fun _ => false) m = m := fun m => by induction m with
        | zero => rfl
        | succ m ih => simp [unl, ih]
      rw [this]; exact Nat.le_refl _
    · rw [hrep]
      have t0 : ∀ m, tD S pp d (fun _ => false) m = tget T := fun m => by induction m with
        | zero => simp [tD, eT]
        | succ m ih => simp [tD, ih]
      have h0 : ∀ m, hD S d (fun _ => false) m = hget H := fun m => by induction m with
        | zero => simp [hD, eH]
        | succ m ih => simp [hD, ih]
      rw [t0, h0]
      exact ⟨x.size, x.defers, x.tmps, x.heap.heapEq rfl rfl rfl rfl⟩
    · intro j hj _ id a1 a2
      have n1 := r.nx_le (Nat.zero_le j) (by omega)
      have n3 := r.nx_le (show j + 1 ≤ ops.size by omega) (Nat.le_refl _)
      rw [eH] at n1; rw [e2] at n3
      exact hf id (by omega) (by omega)

theorem exec_ok (hc : CtxOk g w0 O) : ∀ n, ESound g w0 O (exec g (LoopGood g) n)
  | 0 => fun _ _ _ _ _ _ _ h => by simp [exec] at h
  | n + 1 => by
    have ih := exec_ok hc n
    intro nT pl c T H o hn h hC
    unfold exec at h
    cases c with
    | skip =>
      simp only [Option.some.injEq] at h; subst h
      exact ⟨Nat.le_refl _, fun ρ Φ a w x _ => wp_skip ⟨rfl, ρ, Φ, Ext.refl ρ, fun _ h => absurd rfl h, x⟩⟩
    | label l =>
      simp only [Option.some.injEq] at h; subst h
      exact ⟨Nat.le_refl _, fun ρ Φ a w x _ => wp_label ⟨rfl, ρ, Φ, Ext.refl ρ, fun _ h => absurd rfl h, x⟩⟩
    | exit i =>
      simp only [Option.some.injEq] at h; subst h
      exact ⟨Nat.le_refl _, fun ρ Φ a w x _ => wp_exit ⟨rfl, ρ, Φ, Ext.refl ρ, fun _ h => absurd rfl h, x⟩⟩
    | ret =>
      simp only [Option.some.injEq] at h; subst h
      exact ⟨Nat.le_refl _, fun ρ Φ a w x _ => wp_ret ⟨rfl, ρ, Φ, Ext.refl ρ, fun _ h => absurd rfl h, x⟩⟩
    | seq x y =>
      simp only at h
      split at h
      · rename_i T1 H1 pl1 C1 h1
        split at h
        · rename_i o2 h2
          simp only [Option.some.injEq] at h; subst h
          obtain ⟨c1, c2⟩ := hC.append
          have k1 := ih _ _ _ _ _ _ hn h1 c1
          have k2 := ih _ _ _ _ _ _ hn h2 c2
          exact Sim.seq k1 k2
        · simp at h
      · rename_i r hne
        rw [h] at hne
        obtain ⟨e, T1, H1, pl1, C1⟩ := o
        exact Sim.seq_out (ih _ _ _ _ _ _ hn h hC) (fun he => by simp only at he; subst he; exact hne _ _ _ _ rfl)
    | block id c =>
      simp only at h
      split at h
      · rename_i i T1 H1 pl1 C1 h1
        split at h
        · rename_i hb
          simp only [Option.some.injEq] at h; subst h
          have : i = id := Nat.eq_of_beq_eq_true hb
          subst this
          have k1 := ih _ _ _ _ _ _ hn h1 hC
          exact Sim.block k1 (.inl ⟨rfl, rfl⟩)
        · rename_i hb
          simp only [Option.some.injEq] at h; subst h
          have k1 := ih _ _ _ _ _ _ hn h1 hC
          refine Sim.block k1 (.inr ⟨fun e => ?_, rfl⟩)
          injection e with e
          subst e
          rw [Nat.beq_refl] at hb; simp at hb
      · rename_i r hne
        rw [h] at hne
        obtain ⟨e, T1, H1, pl1, C1⟩ := o
        exact Sim.block (ih _ _ _ _ _ _ hn h hC) (.inr ⟨fun he => by simp only at he; subst he; exact hne _ _ _ _ _ rfl, rfl⟩)
    | cond c x y =>
      have pick : ∀ {b : Bool} {l : Bool} {T1 : Tmps} {H1 : Heap} {e : Ex}, boolOf (opnd g (tget T) c) = some (l, b) → Sim g.P w0 O nT (if b = true then x else y) T H e T1 H1 → Sim g.P w0 O nT (.cond c x y) T H e T1 H1 := by
        intro b l T1 H1 e hb hs
        refine ⟨hs.1, fun ρ Φ a w r hf => ?_⟩
        have hv := denV_bool (opnd_den hc.glob (ρ := ρ) (T := tget T) (a := a) (x := c) fun t _ => r.tmps t) hb
        exact wp_cond hv (wpL_wp (hs.2 ρ Φ a w r hf))
      simp only at h
      split at h
      · rename_i hb; exact pick hb (by simpa using ih _ _ _ _ _ _ hn h hC)
      · rename_i hb; exact pick hb (by simpa using ih _ _ _ _ _ _ hn h hC)
      · rename_i b hb
        split at h
        · split at h
          · rename_i o2 h2
            simp only [Option.some.injEq] at h; subst h
            have hbt : b = true := hC _ (by simp)
            subst hbt
            exact pick hb (by simpa using ih _ _ _ _ _ _ hn h2 (fun p hp => hC p (by simp [hp])))
          · simp at h
        · split at h
          · rename_i o2 h2
            simp only [Option.some.injEq] at h; subst h
            have hbt : b = false := hC _ (by simp)
            subst hbt
            exact pick hb (by simpa using ih _ _ _ _ _ _ hn h2 (fun p hp => hC p (by simp [hp])))
          · simp at h
        · simp at h
      · simp at h
    | loop c =>
      have unroll : (match exec g (LoopGood g) n nT pl c T H with
          | some ⟨.normal, T, H, pl, C⟩ => match exec g (LoopGood g) n nT pl (.loop c) T H with
            | some o => some ⟨o.e, o.T, o.H, o.pl, C ++ o.C⟩
            | none => none
          | r => r) = some o → Sim g.P w0 O nT (.loop c) T H o.e o.T o.H := by
        intro h
        split at h
        · rename_i T1 H1 pl1 C1 h1
          split at h
          · rename_i o2 h2
            simp only [Option.some.injEq] at h; subst h
            obtain ⟨c1, c2⟩ := hC.append
            have k1 := ih _ _ _ _ _ _ hn h1 c1
            have k2 := ih _ _ _ _ _ _ hn h2 c2
            exact Sim.round k1 k2
          · simp at h
        · rename_i r hne
          rw [h] at hne
          obtain ⟨e, T1, H1, pl1, C1⟩ := o
          exact Sim.round_out (ih _ _ _ _ _ _ hn h hC) (fun he => by simp only at he; subst he; exact hne _ _ _ _ rfl)
      simp only at h
      split at h
      · split at h
        · split at h
          · rename_i T' H' C' hl
            simp only [Option.some.injEq] at h; subst h
            exact loop_ok (hC _ (by simp)) hl (fun p hp => hC p (by simp [hp])) hc.glob
          · simp at h
        · exact unroll h
      · exact unroll h
    | region id ops draw =>
      have hK := callOf_ok hc ih
      simp only at h
      split at h
      · simp at h
      · rename_i hsh
        split at h
        · rename_i s hs
          split at h
          · simp only [Option.some.injEq] at h; subst h
            exact region_ok hc hK hn hsh hs (by simp) hC
          · rename_i hany
            split at h
            · rename_i hst
              simp only [Option.some.injEq] at h; subst h
              exact region_ok hc hK hn hsh hs (fun _ => ⟨hst, .inl hany⟩) hC
            · simp at h
          · split at h
            · rename_i hst
              simp only [Option.some.injEq] at h; subst h
              simp only [Bool.and_eq_true] at hst
              exact region_ok hc hK hn hsh hs (fun _ => ⟨hst.1, .inr hst.2⟩) hC
            · simp at h
        · simp at h
    | _ => simp at h

/-- a function from its entry on -/
theorem runFn_ok (hc : CtxOk g w0 O) {n : Nat} {pl : List Plan} {f : FuncId} {args : List SV} {H : Heap} {ids : List Nat} {v : SV} {bs : List (Option Body)} {C : List Prop}
    (h : runFn g (LoopGood g) n pl f args H ids = some (v, bs, C)) (hC : AllC C) : ∃ H' : Heap, bs = ids.map (hget H') ∧ H.nx ≤ H'.nx ∧
      ∀ ρ Φ vs w, DenT w0 O ρ args vs → RelH w0 O ρ (hget H) w Φ → (∀ id, H.nx ≤ id → id < H'.nx → ρ id = none) → CallR g.P f vs.toArray w (Post w0 O ρ H.nx H'.nx (hget H') v) := by
  unfold runFn at h
  split at h
  · rename_i v' H' pl' C' h1
    simp only [Option.some.injEq, Prod.mk.injEq] at h
    obtain ⟨rfl, rfl, rfl⟩ := h
    exact ⟨H', rfl, callOf_ok hc (exec_ok hc n) _ _ _ _ _ _ _ _ h1 hC⟩
  · simp at h

end
end Go.Vx

namespace Go.Vx

/-! ### canonical runs -/
section
noncomputable section
def mkB (B : List Body) : Heap := ⟨addAll B 0 .lf, B.length⟩

def upto : Nat → List Nat
  | 0 => []
  | n + 1 => upto n ++ [n]

/-- a function, from chunks under 0, 1, ..; new: the chunks that it hands back -/
def runF (g : Ctx) (n : Nat) (pl : List Plan) (f : FuncId) (args : List SV) (B : List Body) (new : List Nat) : Option (SV × List (Option Body) × List Prop) :=
  let ids := upto B.length ++ new
  match callOf g (exec g (LoopGood g) n) f args (mkB B) pl with
  | some (v, H, _, C) => some (mapC (idx ids) v, ids.map fun id => (hget H id).map (mapB (idx ids)), C)
  | none => none

/-- a piece of code -/
def runC (g : Ctx) (n nT : Nat) (pl : List Plan) (c : Code) (S : List (Nat × SV)) (B : List Body) (keep ids : List Nat) : Option (Ex × List SV × List (Option Body) × List Prop) :=
  match exec g (LoopGood g) n nT pl c (mkT S) (mkB B) with
  | some ⟨e, T, H, _, C⟩ => some (e, keep.map fun t => mapC (idx ids) (tget T t), ids.map fun id => (hget H id).map (mapB (idx ids)), C)
  | none => none
end
end

/-- good in every world that has the variables -/
def SumU (g : Ctx) (f : FuncId) (σ : Sum) : Prop := ∀ w0 O, GlobOk g w0 O → SumOk g.P w0 O f σ
def CtxU (g : Ctx) : Prop := ∀ w0 O, GlobOk g w0 O → CtxOk g w0 O

theorem CtxU.mk {g : Ctx} (hs : ∀ f σ, g.sum f = some σ → SumU g f σ) (hm : g.P.follows .mixedOrders = true)
    (hn : ∀ (f : FuncId) (fn : Func) (c : Code), g.P.funcs[f]? = some fn → fn.body = some c → (fn.name == "runtime.NumGoroutine") = false) : CtxU g :=
  fun _ _ hG => ⟨hG, fun f σ h => hs f σ h _ _ hG, hm, hn⟩

/-- the chunks behind a call -/
def afterH (B : List Body) (out : OpOut) : Nat → Option Body := newH (BH B) B.length out

/-- a function's account, the chunks under 0, 1, .. -/
def FnOk (g : Ctx) (f : FuncId) (args : List SV) (B : List Body) (out : OpOut) : Prop :=
  ∀ w0 O, GlobOk g w0 O → ∀ ρ Φ vs w, DenT w0 O ρ args vs → RelH w0 O ρ (BH B) w Φ → (∀ j, B.length ≤ j → ρ j = none) →
    CallR g.P f vs.toArray w (fun u w' => ∃ ρ' Φ', DenV w0 O ρ' out.val u ∧ (∀ j h, ρ j = some h → ρ' j = some h) ∧ (∀ j, B.length + out.new.length ≤ j → ρ' j = none) ∧ RelH w0 O ρ' (afterH B out) w' Φ')

theorem upto_get : ∀ (n j : Nat), (upto n)[j]? = if j < n then some j else none
  | 0, j => by simp [upto]
  | n + 1, j => by
    have hl : ∀ n, (upto n).length = n := fun n => by induction n with | zero => rfl | succ n ih => simp [upto, ih]
    simp only [upto, List.getElem?_append, hl, upto_get n]
    by_cases h : j < n
    · rw [if_pos h, if_pos h, if_pos (by omega)]
    · rw [if_neg h]
      by_cases h2 : j = n
      · subst h2; simp
      · rw [if_neg (by omega)]
        rw [show j - n = (j - n - 1) + 1 by omega]; simp
theorem upto_length : ∀ n, (upto n).length = n
  | 0 => rfl
  | n + 1 => by simp [upto, upto_length n]

theorem hget_mkB {B : List Body} (h : B.length < 65535) : hget (mkB B) = BH B := by
  have := hget_addAll B 0 .lf (by omega)
  funext j
  show (fun i => Tr.get none (addAll B 0 Tr.lf) i) j = _
  rw [this, newAll_get]
  by_cases hj : j < B.length
  · rw [if_pos (by omega)]; simp [BH]
  · rw [if_neg (by omega)]; simp [Tr.get_lf, BH, List.getElem?_eq_none (Nat.le_of_not_lt hj)]

section
variable {g : Ctx} {w0 : World} {O : Own} {ρ : Rho} {w : World} {Φ : Nat → Foot}

theorem relH_funext {H H' : Nat → Option Body} (h : ∀ j, H j = H' j) (x : RelH w0 O ρ H w Φ) : RelH w0 O ρ H' w Φ := by
  rw [show H' = H from funext fun j => (h j).symm]; exact x

theorem updAll_far : ∀ (u : List (Nat × Option Body)) (H : Nat → Option Body) {j : Nat}, (∀ y ∈ u, y.1 ≠ j) → updAll u H j = H j
  | [], H, j, _ => rfl
  | y :: u, H, j, h => by
    simp only [updAll]
    rw [updAll_far u _ fun z hz => h z (by simp [hz])]
    unfold upH
    rw [if_neg (fun e => h y (by simp) e.symm)]

theorem FnOk.run {f : FuncId} {args : List SV} {B : List Body} {out : OpOut} (hU : CtxU g) {n : Nat} {pl : List Plan} {new : List Nat} {L : List (Option Body)} {C : List Prop}
    (h : runF g n pl f args B new = some (out.val, L, C)) (hC : AllC C) (hnd : (upto B.length ++ new).Nodup) (hn : new.length = out.new.length) (hB : B.length < 65535)
    (hu : ∀ y ∈ out.upd, y.1 < B.length) (hL : ∀ j, j < B.length + out.new.length → (L[j]?).getD none = afterH B out j) : FnOk g f args B out := by
  intro w0 O hG ρ Φ vs w hd x hr
  unfold runF at h
  simp only at h
  generalize hids : upto B.length ++ new = ids at h hnd
  have hlen : ids.length = B.length + out.new.length := by rw [← hids, List.length_append, upto_length, hn]
  split at h
  · rename_i v H' pl' C' hcall
    simp only [Option.some.injEq, Prod.mk.injEq] at h
    obtain ⟨hv, hb, rfl⟩ := h
    obtain ⟨q1, q2⟩ := callOf_ok (hU w0 O hG) (exec_ok (hU w0 O hG) n) _ _ _ _ _ _ _ _ hcall hC
    rw [← hget_mkB hB] at x
    refine (q2 ρ Φ vs w hd x (fun id hid _ => hr id hid)).mono fun u w' ⟨ρ', Φ', p1, p2, p3, p4⟩ => ?_
    refine ⟨inR ρ' ids, inF Φ' ids, ?_, fun j h hj => ?_, fun j hj => ?_, ?_⟩
    · rw [← hv]; exact denV_map (inR_idx ρ' ids) p1
    · have hjl : j < B.length := by
        rcases Nat.lt_or_ge j B.length with e | e
        · exact e
        · rw [hr j e] at hj; simp at hj
      have : ids[j]? = some j := by rw [← hids, List.getElem?_append_left (by rw [upto_length]; exact hjl), upto_get, if_pos hjl]
      simp [inR, this, p2 j h hj]
    · simp [inR, List.getElem?_eq_none (show ids.length ≤ j by omega)]
    · refine relH_funext (fun j => ?_) (relH_ren p4 hnd)
      rcases Nat.lt_or_ge j ids.length with hj | hj
      · rw [← hL j (by omega), ← hb, List.getElem?_map]
        unfold renH
        rw [List.getElem?_eq_getElem hj]; simp
      · unfold renH afterH newH
        rw [List.getElem?_eq_none hj, newAll_get, if_neg (by omega)]
        simp only [Option.bind_none, Option.map_none]
        rw [updAll_far out.upd (BH B) (fun y hy => by have := hu y hy; omega)]
        simp [BH, List.getElem?_eq_none (show B.length ≤ j by omega)]
  · simp at h

/-! ### pieces of code -/
theorem SimC.run {nT n m : Nat} {pl : List Plan} {c : Code} {S : List (Nat × SV)} {B B' : List Body} {keep ids : List Nat} {e : Ex} {vals : List SV} {C : List Prop} (hU : CtxU g) (hn : nT < 65535)
    (h : runC g n nT pl c S B keep ids = some (e, vals, B'.map some, C)) (hC : AllC C) (hnd : ids.Nodup) (hm : ∀ j, j < m → ids[j]? = some j) (hk : ∀ k ∈ keep, k < 65535) (hB : B.length < 65535) (hG : GlobOk g w0 O) :
    SimC g.P w0 O nT c S B e (keep.zip vals) B' m := by
  intro ρ Φ a w r hr
  unfold runC at h
  split at h
  · rename_i e1 T H1 pl1 C1 hx
    simp only [Option.some.injEq, Prod.mk.injEq] at h
    obtain ⟨rfl, hv, hb, rfl⟩ := h
    obtain ⟨s1, s2⟩ := exec_ok (hU w0 O hG) n _ _ _ _ _ _ hn hx hC
    rw [← hget_mkB hB] at r
    refine wpL_mono (s2 ρ Φ a w r fun id hid _ => hr id hid) fun e' a' w' ⟨he, ρ', Φ', q1, q2, q3⟩ => ⟨he, inR ρ' ids, inF Φ' ids, fun j h hj hh => ?_, fun j hj => ?_, q3.size, q3.defers, fun t => ?_, ?_⟩
    · simp [inR, hm j hj, q1 j h hh]
    · have : ids.length = B'.length := by have := congrArg List.length hb; simpa using this
      simp [inR, List.getElem?_eq_none (show ids.length ≤ j by omega)]
    · have hz : ∀ y ∈ keep.zip vals, y.1 < 65535 ∧ y.2 = mapC (idx ids) (tget T y.1) := fun y hy => by
        rw [← hv] at hy
        rw [List.mem_iff_getElem?] at hy
        obtain ⟨i, hi⟩ := hy
        rw [List.getElem?_zip_eq_some] at hi
        obtain ⟨i1, i2⟩ := hi
        refine ⟨hk _ (List.mem_of_getElem? i1), ?_⟩
        rw [List.getElem?_map, i1] at i2
        simpa using i2.symm
      rcases tget_mkT _ t fun y hy => (hz y hy).1 with e | ⟨y, h1, h2, h3⟩
      · rw [e]; exact .inl rfl
      · rw [h3, (hz y h1).2, h2]
        exact denV_map (inR_idx ρ' ids) (q3.tmps t)
    · refine relH_funext (fun j => ?_) (relH_ren q3.heap hnd)
      unfold renH BH
      have := congrArg (fun l => l[j]?) hb
      simp only [List.getElem?_map] at this
      cases hj : ids[j]? with
      | none =>
        rw [hj] at this
        cases hb' : B'[j]? with
        | none => rfl
        | some b => rw [hb'] at this; simp at this
      | some id =>
        rw [hj] at this
        cases hb' : B'[j]? with
        | none => rw [hb'] at this; simp at this
        | some b => rw [hb'] at this; simpa using this
  · simp at h

theorem SimC.next {nT m m' : Nat} {c : Code} {S S1 S2 : List (Nat × SV)} {B B1 B2 : List Body} {e : Ex} (hm : m' ≤ m) (h1 : SimC g.P w0 O nT c S B .normal S1 B1 m) (h2 : SimC g.P w0 O nT (.loop c) S1 B1 e S2 B2 m') : SimC g.P w0 O nT (.loop c) S B e S2 B2 m' := by
  intro ρ Φ a w r hr
  show LoopWp _ _ _ _ _
  refine LoopWp.round (wp_mono (wpL_wp (h1 ρ Φ a w r hr)) fun e' a' w' ⟨he, ρ', Φ', q1, q2, q3⟩ => ?_)
  subst he
  have hy : LoopWp g.P c _ a' w' := h2 ρ' Φ' a' w' q3 q2
  intro b k cs
  obtain ⟨e2, a2, w2, ⟨he2, ρ2, Φ2, p1, p2, p3⟩, harr⟩ := hy b k cs
  exact ⟨e2, a2, w2, ⟨he2, ρ2, Φ2, fun j h hj hh => p1 j h hj (q1 j h (Nat.lt_of_lt_of_le hj hm) hh), p2, p3⟩, harr⟩

theorem SimC.done {nT m : Nat} {c : Code} {S S1 : List (Nat × SV)} {B B1 : List Body} {e : Ex} (h1 : SimC g.P w0 O nT c S B e S1 B1 m) (he : e ≠ .normal) : SimC g.P w0 O nT (.loop c) S B e S1 B1 m := by
  intro ρ Φ a w r hr
  show LoopWp _ _ _ _ _
  refine LoopWp.round (wp_mono (wpL_wp (h1 ρ Φ a w r hr)) fun e' a' w' h => ?_)
  obtain ⟨e1, hd⟩ := h
  subst e1
  cases e with
  | normal => exact absurd rfl he
  | exit i => exact ⟨rfl, hd⟩
  | ret => exact ⟨rfl, hd⟩

/-- fewer slots are told of -/
theorem SimC.weaken {nT m : Nat} {c : Code} {S S1 S1' : List (Nat × SV)} {B B1 : List Body} {e : Ex} (h1 : SimC g.P w0 O nT c S B e S1 B1 m) (h : ∀ t, tget (mkT S1') t = tget (mkT S1) t ∨ tget (mkT S1') t = .any) : SimC g.P w0 O nT c S B e S1' B1 m :=
  fun ρ Φ a w r hr => wpL_mono (h1 ρ Φ a w r hr) fun _ _ _ ⟨he, ρ', Φ', q1, q2, q3⟩ => ⟨he, ρ', Φ', q1, q2, q3.sub h⟩


/-! ### calls -/
mutual
theorem closedC_back {ids : List Nat} (nx : Nat) : ∀ (c : SV), closedC ids c = true → mapC (backS ids nx) (mapC (idx ids) c) = c
  | .any, _ => by simp [mapC]
  | .bool _, _ => by simp [mapC]
  | .sbool _, _ => by simp [mapC]
  | .lit _ _, _ => by simp [mapC]
  | .int _ _, _ => by simp [mapC]
  | .raw _, _ => by simp [mapC]
  | .ptr id off, h => by
    simp only [closedC] at h
    obtain ⟨j, hj⟩ := Option.isSome_iff_exists.1 h
    simp only [mapC, hj, backS, idx_spec hj]
  | .sptr id m i sz o, h => by
    simp only [closedC] at h
    obtain ⟨j, hj⟩ := Option.isSome_iff_exists.1 h
    simp only [mapC, hj, backS, idx_spec hj]
  | .sl id m off sz o len k, h => by
    simp only [closedC] at h
    obtain ⟨j, hj⟩ := Option.isSome_iff_exists.1 h
    simp only [mapC, hj, backS, idx_spec hj]
  | .own id, h => by
    simp only [closedC] at h
    obtain ⟨j, hj⟩ := Option.isSome_iff_exists.1 h
    simp only [mapC, hj, backS, idx_spec hj]
  | .ro sz n f, _ => by simp [mapC]
  | .roi k l, _ => by simp [mapC]
  | .rob q k l, _ => by simp [mapC]
  | .rop v, _ => by simp [mapC]
  | .agg cs, h => by
    simp only [closedC] at h
    simp only [mapC, closedL_back nx cs h]
  | .tuple cs, h => by
    simp only [closedC] at h
    simp only [mapC, closedL_back nx cs h]
  | .func f a b, h => by
    simp only [closedC, Bool.and_eq_true] at h
    simp only [mapC, closedL_back nx a h.1, closedL_back nx b h.2]
theorem closedL_back {ids : List Nat} (nx : Nat) : ∀ (cs : List SV), closedL ids cs = true → mapL (backS ids nx) (mapL (idx ids) cs) = cs
  | [], _ => by simp [mapL]
  | c :: cs, h => by
    simp only [closedL, Bool.and_eq_true] at h
    simp only [mapL, closedC_back nx c h.1, closedL_back nx cs h.2]
end
theorem closedB_back {ids : List Nat} (nx : Nat) {b : Body} (h : closedB ids b = true) : mapB (backS ids nx) (mapB (idx ids) b) = b := by
  cases b <;> simp only [mapB]
  case cells cs => rw [closedL_back nx cs h]

theorem upd_back {ids : List Nat} (hnd : ids.Nodup) (f : Body → Body) : ∀ (u : List (Nat × Option Body)) (H Hc : Nat → Option Body), (∀ y ∈ u, y.1 < ids.length) → (∀ j id, ids[j]? = some id → H id = (Hc j).map f) →
    (∀ j id, ids[j]? = some id → updAll (u.map fun y => (nthN ids y.1, y.2.map f)) H id = (updAll u Hc j).map f)
  | [], H, Hc, _, h => h
  | y :: u, H, Hc, hu, h => by
    simp only [List.map_cons, updAll]
    refine upd_back hnd f u _ _ (fun z hz => hu z (by simp [hz])) fun j id hj => ?_
    unfold upH
    have hy := hu y (by simp)
    have hn : nthN ids y.1 = ids[y.1] := by rw [nthN_spec, List.getElem?_eq_getElem hy]; rfl
    by_cases e : j = y.1
    · subst e
      rw [List.getElem?_eq_getElem hy] at hj
      simp at hj
      rw [if_pos (by rw [hn]; exact hj.symm), if_pos rfl]
    · rw [if_neg e, if_neg (fun e2 => e (nodup_inj hnd hj (by rw [e2, hn]; exact List.getElem?_eq_getElem hy)))]
      exact h j id hj

theorem mem_addId {id x : Nat} {acc : List Nat} (h : x ∈ acc) : x ∈ addId id acc := by
  unfold addId; split
  · exact h
  · simp [h]
mutual
theorem mem_refsC {x : Nat} : ∀ (c : SV) {acc : List Nat}, x ∈ acc → x ∈ refsC c acc
  | .any, _, h => by simpa [refsC] using h
  | .bool _, _, h => by simpa [refsC] using h
  | .sbool _, _, h => by simpa [refsC] using h
  | .lit _ _, _, h => by simpa [refsC] using h
  | .int _ _, _, h => by simpa [refsC] using h
  | .raw _, _, h => by simpa [refsC] using h
  | .ptr _ _, _, h => by simp only [refsC]; exact mem_addId h
  | .sptr _ _ _ _ _, _, h => by simp only [refsC]; exact mem_addId h
  | .sl _ _ _ _ _ _ _, _, h => by simp only [refsC]; exact mem_addId h
  | .own _, _, h => by simp only [refsC]; exact mem_addId h
  | .ro _ _ _, _, h => by simpa [refsC] using h
  | .roi _ _, _, h => by simpa [refsC] using h
  | .rob _ _ _, _, h => by simpa [refsC] using h
  | .rop _, _, h => by simpa [refsC] using h
  | .agg cs, _, h => by simp only [refsC]; exact mem_refsL cs h
  | .tuple cs, _, h => by simp only [refsC]; exact mem_refsL cs h
  | .func _ a b, _, h => by simp only [refsC]; exact mem_refsL b (mem_refsL a h)
theorem mem_refsL {x : Nat} : ∀ (cs : List SV) {acc : List Nat}, x ∈ acc → x ∈ refsL cs acc
  | [], _, h => by simpa [refsL] using h
  | c :: cs, _, h => by simp only [refsL]; exact mem_refsL cs (mem_refsC c h)
end
theorem mem_refsB {x : Nat} (b : Option Body) {acc : List Nat} (h : x ∈ acc) : x ∈ refsB b acc := by
  unfold refsB; split
  · exact mem_refsL _ h
  · exact h
theorem mem_fold {H : Nat → Option Body} {x : Nat} : ∀ (l acc : List Nat), x ∈ acc → x ∈ l.foldl (fun acc id => refsB (H id) acc) acc
  | [], _, h => h
  | id :: l, acc, h => mem_fold l _ (mem_refsB (H id) h)
theorem mem_close {H : Nat → Option Body} {x : Nat} : ∀ (n : Nat) (ids : List Nat), x ∈ ids → x ∈ closeIds H n ids
  | 0, _, h => h
  | n + 1, ids, h => mem_close n _ (mem_fold ids ids h)
theorem fold_cong {H H1 : Nat → Option Body} : ∀ (l acc : List Nat), (∀ id ∈ l, H1 id = H id) → l.foldl (fun acc id => refsB (H1 id) acc) acc = l.foldl (fun acc id => refsB (H id) acc) acc
  | [], _, _ => rfl
  | id :: l, acc, h => by
    simp only [List.foldl_cons]
    rw [h id (by simp), fold_cong l _ fun i hi => h i (by simp [hi])]
theorem close_cong {H H1 : Nat → Option Body} : ∀ (n : Nat) (ids : List Nat), (∀ id ∈ closeIds H n ids, H1 id = H id) → closeIds H1 n ids = closeIds H n ids
  | 0, _, _ => rfl
  | n + 1, ids, h => by
    simp only [closeIds] at h ⊢
    rw [fold_cong ids ids fun id hid => h id (mem_close n _ (mem_fold ids ids hid))]
    exact close_cong n _ h
theorem gather_cong {H H1 : Nat → Option Body} : ∀ (ids : List Nat), (∀ id ∈ ids, H1 id = H id) → gather H1 ids = gather H ids
  | [], _ => rfl
  | id :: r, h => by
    simp only [gather]
    rw [h id (by simp), gather_cong r fun i hi => h i (by simp [hi])]
theorem mkSum_local (F : SumF) : LocalS (mkSum F) := by
  intro nx args H out h H1 hr
  have hids : out.reads = closeIds H 3 (refsL args []) := by
    unfold mkSum at h
    simp only at h
    split at h
    · simp at h
    · split at h
      · simp at h
      · split at h
        · simp at h
        · simp only [Option.some.injEq] at h; subst h; rfl
  rw [hids] at hr
  rw [← h]
  unfold mkSum
  simp only
  rw [close_cong 3 _ hr, gather_cong _ hr]

theorem SumU.mk {f : FuncId} {F : SumF} (h : ∀ args B out, F args B = some out → AllC out.C → FnOk g f args B out) : SumU g f (mkSum F) := by
  intro w0 O hG
  refine ⟨mkSum_local F, ?_⟩
  intro nx args H out hσ hC ρ Φ vs w hd x hf
  unfold mkSum at hσ
  simp only at hσ
  generalize hids : closeIds H 3 (refsL args []) = ids at hσ
  split at hσ
  · simp at hσ
  rename_i B hB
  split at hσ
  · simp at hσ
  rename_i r hF
  split at hσ
  · simp at hσ
  rename_i hck
  simp only [Bool.and_eq_true, List.all_eq_true, Nat.blt_eq] at hck
  obtain ⟨k1, k2, k3⟩ := hck
  have hnd := nodupB_spec k1
  simp only [Option.some.injEq] at hσ
  subst hσ
  simp only [List.length_map] at hf ⊢
  have hBl := (gather_spec hB).1
  have hHi : ∀ id ∈ ids, H id ≠ none := fun id hid e => by
    obtain ⟨j, hj⟩ := List.getElem?_of_mem hid
    have := (gather_spec hB).2 j
    rw [hj] at this
    simp only [Option.bind_some, e] at this
    have hj2 : j < ids.length := (List.getElem?_eq_some_iff.1 hj).1
    rw [List.getElem?_eq_getElem (by omega)] at this
    simp at this
  have hrho : ∀ id ∈ ids, ∃ h, ρ id = some h := fun id hid => by
    have := hHi id hid
    cases e : H id with
    | none => exact absurd e this
    | some b => obtain ⟨hd, q, _⟩ := x.holds id b e; exact ⟨hd, q⟩
  have hold : ∀ id ∈ ids, ¬ (nx ≤ id ∧ id < nx + r.new.length) := fun id hid ⟨a, b⟩ => by
    obtain ⟨h, hh⟩ := hrho id hid
    rw [hf id a b] at hh; simp at hh
  have xin := rel_in x hnd hHi
  rw [renH_gather hB] at xin
  have hfn := h _ _ _ hF hC w (inO O Φ ids) (glob_cong (O := O) rfl hG) (inR ρ ids) (inF Φ ids) vs w (denT_cong (O := O) (O1 := inO O Φ ids) rfl _ _ _ (denT_map (w0 := w0) (inR_idx ρ ids) _ _ hd)) xin (fun j hj => by
    simp only [List.length_map] at hj
    simp [inR, List.getElem?_eq_none (show ids.length ≤ j by omega)])
  refine hfn.mono fun u w' ⟨ρ2, Φ2, p0, p1, p2, p3⟩ => ?_
  simp only [List.length_map, hBl] at p2
  let src : Nat → Option Nat := fun id => match idx ids id with
    | some j => some j
    | none => if nx ≤ id ∧ id < nx + r.new.length then some (ids.length + (id - nx)) else none
  let ρ' : Rho := fun id => if nx ≤ id ∧ id < nx + r.new.length then ρ2 (ids.length + (id - nx)) else ρ id
  have src1 : ∀ {id j : Nat}, src id = some j → (ids[j]? = some id) ∨ (ids.length ≤ j ∧ j < ids.length + r.new.length ∧ id = nx + (j - ids.length)) := by
    intro id j hs
    simp only [src] at hs
    split at hs
    · rename_i j' hj'
      simp at hs; subst hs; exact .inl (idx_spec hj')
    · split at hs
      · simp at hs; subst hs
        exact .inr ⟨by omega, by omega, by omega⟩
      · simp at hs
  have hE : Ext ρ ρ' := fun id h hh => by
    simp only [ρ']
    split
    · rename_i hr; rw [hf id hr.1 hr.2] at hh; simp at hh
    · exact hh
  have old : ∀ {id j : Nat} {h : Hd}, ids[j]? = some id → ρ2 j = some h → ρ' id = some h := by
    intro id j h hj hh
    have hid := List.mem_of_getElem? hj
    obtain ⟨h0, q⟩ := hrho id hid
    have : inR ρ ids j = some h0 := by simp [inR, hj, q]
    have := p1 j h0 this
    rw [hh] at this
    simp only [ρ']
    rw [if_neg (hold id hid), q, this]
  have hback : ∀ j h id, ρ2 j = some h → backS ids nx j = some id → ρ' id = some h := by
    intro j h id hj hb
    unfold backS at hb
    split at hb
    · rename_i id' hid
      simp at hb; subst hb
      exact old hid hj
    · rename_i hn
      have hge : ids.length ≤ j := by simpa using hn
      simp at hb; subst hb
      have hjl : j < ids.length + r.new.length := by
        rcases Nat.lt_or_ge j (ids.length + r.new.length) with h | h
        · exact h
        · rw [p2 j h] at hj; simp at hj
      simp only [ρ']
      rw [if_pos (by omega), show ids.length + (nx + (j - ids.length) - nx) = j by omega, hj]
  have xout := rel_out (src := src) (back := backS ids nx) (ρ' := ρ') (H' := newH H nx { val := mapC (backS ids nx) r.val, upd := r.upd.map fun y => (nthN ids y.1, y.2.map (mapB (backS ids nx))), new := r.new.map (mapB (backS ids nx)), reads := ids, C := r.C }) x hHi p3 hE
    (by
      intro id id' j h1 h2
      rcases src1 h1 with a2 | ⟨a1, a2, a3⟩ <;> rcases src1 h2 with b2 | ⟨b1, b2, b3⟩
      · rw [a2] at b2; simpa using b2
      · rw [List.getElem?_eq_none b1] at a2; simp at a2
      · rw [List.getElem?_eq_none a1] at b2; simp at b2
      · omega)
    hback
    (by
      intro id j h hs hj
      rcases src1 hs with a2 | ⟨a1, a2, a3⟩
      · exact old a2 hj
      · subst a3
        simp only [ρ']
        rw [if_pos (by omega), show ids.length + (nx + (j - ids.length) - nx) = j by omega, hj])
    (by
      intro id j hs
      unfold newH afterH newH
      rw [newAll_get, newAll_get]
      simp only [List.length_map, hBl]
      rcases src1 hs with a2 | ⟨a1, a2, a3⟩
      · have hjl : j < ids.length := (List.getElem?_eq_some_iff.1 a2).1
        rw [if_neg (hold id (List.mem_of_getElem? a2)), if_neg (by omega)]
        refine upd_back hnd (mapB (backS ids nx)) r.upd H (BH (B.map (mapB (idx ids)))) k3 (fun j id hj => ?_) j id a2
        have hg := (gather_spec hB).2 j
        rw [hj] at hg
        simp only [Option.bind_some] at hg
        unfold BH
        rw [List.getElem?_map, hg]
        cases hb : B[j]? with
        | none => rfl
        | some b => simp only [Option.map_some]; rw [closedB_back nx (k2 b (List.mem_of_getElem? hb))]
      · rw [if_pos (by omega), if_pos (by omega)]
        rw [List.getElem?_map, show id - nx = j - ids.length by omega])
    (by
      intro id hs hm
      obtain ⟨j, hj⟩ := List.getElem?_of_mem hm
      have hij := idx_some hnd hj
      simp only [src, hij] at hs
      simp at hs)
    (by
      intro id hs hm
      have hij := idx_none hm
      simp only [src, hij] at hs
      unfold newH
      rw [newAll_get]
      simp only [List.length_map]
      split at hs
      · simp at hs
      · rename_i hr
        rw [if_neg hr]
        refine updAll_far _ H fun y hy e => hm ?_
        obtain ⟨z, hz, rfl⟩ := List.mem_map.1 hy
        have hzl := k3 z hz
        simp only at e
        rw [nthN_spec, List.getElem?_eq_getElem hzl] at e
        simp at e
        exact e ▸ List.getElem_mem hzl)
  refine ⟨ρ', outF src Φ Φ2, denV_cong (O := inO O Φ ids) (O1 := O) rfl (denV_map (w0 := w) (fun j h id a b => hback j h id a b) p0), hE, fun id hne => ?_, xout⟩
  simp only [ρ'] at hne
  split at hne
  · assumption
  · exact absurd rfl hne
end

end Go.Vx

namespace Go.Vx
open Go.ChangeShapes Go.WideShapes Go.RowKit

/-! ### plainer arguments -/
mutual
def normC : SV → SV
  | .lit k n => .int k n
  | .bool b => .sbool b
  | .agg cs => .agg (normL cs)
  | .tuple cs => .tuple (normL cs)
  | .any => .any
  | .sbool b => .sbool b
  | .int k n => .int k n
  | .raw v => .raw v
  | .ptr id off => .ptr id off
  | .sptr id m i sz j => .sptr id m i sz j
  | .sl id m off sz j len kn => .sl id m off sz j len kn
  | .own id => .own id
  | .ro sz n f => .ro sz n f
  | .roi k l => .roi k l
  | .rob q k l => .rob q k l
  | .rop v => .rop v
  | .func f a b => .func f a b
def normL : List SV → List SV
  | [] => []
  | c :: cs => normC c :: normL cs
end

section
variable {w0 : World} {O : Own} {ρ : Rho}
theorem normC_agg (c : SV) : isAggS (normC c) = isAggS c := by cases c <;> simp [normC, isAggS]
mutual
theorem denC_norm : ∀ (c : SV) (vs : List Value), DenC w0 O ρ c vs → DenC w0 O ρ (normC c) vs
  | .lit k n, _, x => by simpa [normC, DenC] using x
  | .bool b, _, x => by simpa [normC, DenC] using x
  | .agg cs, vs, x => by
    simp only [normC, DenC] at x ⊢
    exact denL_norm cs vs x
  | .tuple cs, vs, x => by
    simp only [normC, DenC] at x ⊢
    obtain ⟨arr, h1, h2⟩ := x
    exact ⟨arr, h1, denT_norm cs _ h2⟩
  | .any, _, x => by simpa only [normC] using x
  | .sbool _, _, x => by simpa only [normC] using x
  | .int _ _, _, x => by simpa only [normC] using x
  | .raw _, _, x => by simpa only [normC] using x
  | .ptr _ _, _, x => by simpa only [normC] using x
  | .sptr .., _, x => by simpa only [normC] using x
  | .sl .., _, x => by simpa only [normC] using x
  | .own _, _, x => by simpa only [normC] using x
  | .ro .., _, x => by simpa only [normC] using x
  | .roi .., _, x => by simpa only [normC] using x
  | .rob .., _, x => by simpa only [normC] using x
  | .rop _, _, x => by simpa only [normC] using x
  | .func .., _, x => by simpa only [normC] using x
theorem denL_norm : ∀ (cs : List SV) (vs : List Value), DenL w0 O ρ cs vs → DenL w0 O ρ (normL cs) vs
  | [], _, x => by simpa [normL, DenL] using x
  | c :: cs, vs, x => by
    simp only [normL, DenL] at x ⊢
    obtain ⟨v, r, h1, h2, h3, h4⟩ := x
    exact ⟨v, r, h1, denC_norm c _ h2, h3, denL_norm cs r h4⟩
theorem denT_norm : ∀ (cs : List SV) (vs : List Value), DenT w0 O ρ cs vs → DenT w0 O ρ (normL cs) vs
  | [], _, x => by simpa [normL, DenT] using x
  | c :: cs, vs, x => by
    simp only [normL, DenT] at x ⊢
    obtain ⟨v, r, h1, h2, h3⟩ := x
    refine ⟨v, r, h1, ?_, denT_norm cs r h3⟩
    rcases h2 with rfl | ⟨e1, e2⟩
    · left; simp [normC]
    · right; exact ⟨(normC_agg c).trans e1, denC_norm c _ e2⟩
end

theorem FnOk.args {g : Ctx} {f : FuncId} {args args' : List SV} {B : List Body} {out : OpOut} (h : FnOk g f args' B out) (hd : ∀ w0 O ρ vs, DenT w0 O ρ args vs → DenT w0 O ρ args' vs) : FnOk g f args B out :=
  fun w0 O hG ρ Φ vs w d x hr => h w0 O hG ρ Φ vs w (hd _ _ _ _ d) x hr
theorem FnOk.norm {g : Ctx} {f : FuncId} {args : List SV} {B : List Body} {out : OpOut} (h : FnOk g f (normL args) B out) : FnOk g f args B out := h.args fun _ _ _ _ d => denT_norm _ _ d

/-- another account of the same value -/
theorem FnOk.val {g : Ctx} {f : FuncId} {args : List SV} {B : List Body} {v v' : SV} {upd : List (Nat × Option Body)} {new : List Body} {rd rd' : List Nat} {C C' : List Prop} (h : FnOk g f args B { val := v, upd, new, reads := rd, C }) (hv : ∀ w0 O ρ u, DenV w0 O ρ v u → DenV w0 O ρ v' u) :
    FnOk g f args B { val := v', upd, new, reads := rd', C := C' } :=
  fun w0 O hG ρ Φ vs w d x hr => (h w0 O hG ρ Φ vs w d x hr).mono fun _ _ ⟨ρ', Φ', q1, q2, q3, q4⟩ => ⟨ρ', Φ', hv _ _ _ _ q1, q2, q3, q4⟩

/-- a summary that looks at plain arguments -/
noncomputable def mkSumN (F : SumF) : Sum := mkSum fun args B => F (normL args) B
theorem SumU.mkN {g : Ctx} {f : FuncId} {F : SumF} (h : ∀ args B out, F args B = some out → AllC out.C → FnOk g f args B out) : SumU g f (mkSumN F) :=
  SumU.mk fun args B out hF hC => (h _ _ _ hF hC).norm

theorem CallR.calls {P : Program} {f : FuncId} {vs : Array Value} {w : World} {R : Value → World → Prop} {fn : Func} (h : CallR P f vs w R) (hf : P.funcs[f]? = some fn) (hb : fn.body.isNone = false) (hn : (fn.name == "runtime.NumGoroutine") = false) :
    Calls P f vs w (fun e w' => ∃ v, e = .returned v ∧ R v w') := by
  rcases h with ⟨_, _, _, _, h⟩ | ⟨v, w', h, _⟩
  · exact h
  · have n1 : ¬ fn.name = "runtime.NumGoroutine" := by simpa using hn
    have n2 : ¬ fn.body = none := by intro e; rw [e] at hb; simp at hb
    simp [callFunc, hf, n1, n2] at h

/-! ### from a law's account to its statement -/
/-- all that is there stands as it does -/
def O0 (W : World) : Own := ⟨fun _ _ => False, fun b o v => W.cell? (adr b o) = some v, fun _ _ => False⟩

theorem frame_below {W w' : World} (h : Frame W (O0 W) w') : Below W.heap.size W w' := by
  refine ⟨h.os, h.tape, h.output, h.size, fun k hk => ?_⟩
  have hb := h.block k hk
  cases e : W.heap[k]? with
  | none => rw [e] at hb; simpa [Kept] using hb
  | some ob =>
    rw [e] at hb
    cases ob
    case cells c t fr =>
      obtain ⟨c', f', e1, e2, e3, e4, _⟩ := hb
      have : f' = fr := e4 fun j => id
      subst this
      rw [e1]
      congr 2
      apply Array.ext_getElem?
      intro j
      exact e3 j fun h => h
    all_goals simpa [Kept] using hb

theorem top_law {g : Ctx} {f : FuncId} {fn : Func} {args : List SV} {out : OpOut} (h : FnOk g f args [] out) (hv : out.val = .bool true ∨ out.val = .sbool true) (W : World) (hG : GlobOk g W (O0 W))
    (hf : g.P.funcs[f]? = some fn) (hb : fn.body.isNone = false) (hn : (fn.name == "runtime.NumGoroutine") = false) {vs : Array Value} (hd : DenT W (O0 W) (fun _ => none) args vs.toList) :
    Calls g.P f vs W fun e W' => e = .returned (.bool true) ∧ Below W.heap.size W W' := by
  have x : RelH W (O0 W) (fun _ => none) (BH []) W (fun _ _ _ => False) :=
    ⟨Frame.refl _ _ (fun _ _ _ h => h.elim) (fun b o v h => ⟨h, fun h => h⟩), fun id bd h => by simp [BH] at h, fun _ _ _ _ _ h => by simp [BH] at h, fun id b o h => by simp [BH] at h⟩
  have hc := h W (O0 W) hG _ _ vs.toList W hd x fun _ _ => rfl
  refine (hc.calls hf hb hn).mono fun e W' ⟨v, he, ρ', Φ', q1, _, _, q4⟩ => ?_
  have : v = .bool true := by
    rcases hv with e | e
    · rw [e] at q1; exact denV_bool (l := true) (b := true) q1 rfl
    · rw [e] at q1; exact denV_bool (l := false) (b := true) q1 rfl
  subst this
  exact ⟨he, frame_below q4.frame⟩

section
variable {H : Type} {enc : TypeId × Value → H} {P : Program}

theorem post_of_below {f : Func} {s : ChangeSpec} {apart fresh handsOn again : Bool} {W W' : World} {args : Array Value} {v : Value} {ds gs : List (DataW H)} {before pa pv : List MemPlace}
    (hW : DataW.Whole enc P f.params.toList s.vars apart W args.toList ds gs before)
    (hres : ∀ (b : Nat) (sp : Nat → Bool) (hd : Bool), DataW.TrodAll enc P W' b sp hd f.resultTypes.toList (v.resultList f.resultTypes.size) (s.fn H (ds ++ gs)).results [])
    (hargs : ∀ sp : Nat → Bool, (∀ p ∈ before, sp p.block = true) → DataW.TrodAll enc P W' 0 sp true f.params.toList args.toList (s.fn H (ds ++ gs)).args pa)
    (hvars : ∀ sp : Nat → Bool, (∀ p ∈ before, sp p.block = true) → DataW.TrodVars enc P W' sp s.vars (s.fn H (ds ++ gs)).vars pv)
    (hps : before = pa ++ pv) (hb : Below W.heap.size W W')
    (hok : ∀ (j : Nat) (t : TypeId) (r : Value), f.resultTypes[j]? = some t → (v.resultList f.resultTypes.size)[j]? = some r → Value.okWide P W' .any 0 t r) :
    s.post enc P f apart fresh handsOn again W args v W' := by
  have hlt : ∀ p ∈ before, p.block < W.heap.size := fun p hp => hW.lt p hp
  have hold : ∀ p ∈ before, (fun b => decide (b < W.heap.size)) p.block = true := fun p hp => by simpa using hlt p hp
  refine ⟨ds, gs, before, [], pa, pv, hW, hres _ _ _, hargs _ hold, hvars _ hold, World.keptBut_mono (fun p hp => ⟨hp, ?_⟩) (hb.frame (· ∈ before)), fun _ => ?_⟩
  · rw [hps, List.mem_append] at hp
    exact Or.inr hp
  · obtain ⟨_, _, _, _, _, hz, hn⟩ := hW
    refine ⟨hok, _, _, ([] ++ pa) ++ pv, ⟨[] ++ pa, pv, trodAll_append (hargs _ (fun _ _ => rfl)) (hres _ _ _), hvars _ (fun _ _ => rfl), rfl, ?_, ?_⟩, ?_⟩
    · intro b off hp
      have hin : MemPlace.cell b off ∈ before := by rw [hps]; simpa using hp
      rw [hb.frozen (hlt _ hin)]
      exact hz b off hin
    · intro ha
      have := hn ha
      rw [hps] at this
      simpa using this
    · intro p hp _
      rw [hps]
      simpa using hp

theorem trodAll_below (hl : laidOutB P = true) {W W' : World} (hb : Below W.heap.size W W') {sp : Nat → Bool} : ∀ (ts : List TypeId) (vs : List Value) (ds : List (DataW H)) (ps : List MemPlace), (∀ t ∈ ts, P.readableRec t = true ∧ t < P.types.size) → (∀ p ∈ ps, sp p.block = true) → (∀ p ∈ ps, p.block < W.heap.size) →
    DataW.TrodAll enc P W 0 (fun _ => true) true ts vs ds ps → DataW.TrodAll enc P W' 0 sp true ts vs ds ps
  | [], [], [], ps, _, _, _, h => h
  | t :: ts, v :: vs, d :: ds, ps, ht, hs, hlt, h => by
    obtain ⟨p, q, h1, h2, rfl⟩ := h
    refine ⟨p, q, ?_, trodAll_below hl hb ts vs ds q (fun t h => ht t (by simp [h])) (fun y hy => hs y (by simp [hy])) (fun y hy => hlt y (by simp [hy])) h2, rfl⟩
    obtain ⟨r1, r2⟩ := ht t (by simp)
    exact WideElems.Trod_stays hl r1 r2 h1 (fun x hx => hb.same (hlt x (by simp [hx]))) (fun x hx => hs x (by simp [hx]))

theorem law_post (hl : laidOutB P = true) {f : Func} {s : ChangeSpec} {apart fresh handsOn again : Bool} {W W' : World} {args : Array Value} {ds gs : List (DataW H)} {before : List MemPlace} {tb : TypeId}
    (hW : DataW.Whole enc P f.params.toList s.vars apart W args.toList ds gs before) (hvars : s.vars = []) (hres : f.resultTypes = #[tb]) (htb : P.underlying tb = some .bool)
    (hts : ∀ t ∈ f.params.toList, P.readableRec t = true ∧ t < P.types.size) (hfn : ds.length = f.params.size → s.fn H ds = { results := [.lit (.bool true)], args := ds }) (hb : Below W.heap.size W W') :
    s.post enc P f apart fresh handsOn again W args (.bool true) W' := by
  obtain ⟨p, q, hA, hV, rfl, hfz, hnd⟩ := id hW
  rw [hvars] at hV
  obtain ⟨rfl, rfl⟩ := trodVars_none hV
  have hlen : ds.length = f.params.size := by
    have : ∀ (ts : List TypeId) (vs : List Value) (ds : List (DataW H)) (ps : List MemPlace), DataW.TrodAll enc P W 0 (fun _ => true) true ts vs ds ps → ds.length = ts.length := by
      intro ts
      induction ts with
      | nil => intro vs ds ps h; cases vs <;> cases ds <;> simp [DataW.TrodAll] at h ⊢
      | cons t ts ih =>
        intro vs ds ps h
        cases vs with
        | nil => cases ds <;> simp [DataW.TrodAll] at h
        | cons v vs =>
          cases ds with
          | nil => simp [DataW.TrodAll] at h
          | cons d ds => obtain ⟨p, q, _, h2, _⟩ := h; simp [ih _ _ _ h2]
    simpa using this _ _ _ _ hA
  have hf := hfn hlen
  have hlt : ∀ y ∈ p, y.block < W.heap.size := fun y hy => hW.lt y (by simpa using hy)
  refine post_of_below (pa := p) (pv := []) hW ?_ ?_ ?_ (by simp) hb ?_
  · intro b sp hd
    rw [List.append_nil, hf, hres]
    exact trodAll_cons_mk (shut_bool htb _) trodAll_mk0
  · intro sp hs
    rw [List.append_nil, hf]
    exact trodAll_below hl hb _ _ _ _ hts (fun y hy => hs y (by simpa using hy)) hlt hA
  · intro sp _
    rw [List.append_nil, hf, hvars]
    exact rfl
  · exact ok_one hres rfl (okWide_bool_mk htb _)
end
end

end Go.Vx

namespace Go.Vx
open Go.ChangeShapes Go.WideShapes Go.RowKit

/-! ### arguments, opened -/
/-- cells of these kinds that hold the numbers a i, a (i + 1), .. -/
def svF : List IntKind → (Nat → Int) → Nat → List SV
  | [], _, _ => []
  | k :: ks, a, i => .int k (a i) :: svF ks a (i + 1)

theorem svF_length : ∀ (ks : List IntKind) (a : Nat → Int) (i : Nat), (svF ks a i).length = ks.length
  | [], _, _ => rfl
  | k :: ks, a, i => by simp [svF, svF_length ks]
theorem svF_get : ∀ (ks : List IntKind) (a : Nat → Int) (i j : Nat), (svF ks a i)[j]? = (ks[j]?).map fun k => .int k (a (i + j))
  | [], _, _, j => by simp [svF]
  | k :: ks, a, i, 0 => by simp [svF]
  | k :: ks, a, i, j + 1 => by simp [svF, svF_get ks a (i + 1) j, show i + 1 + j = i + (j + 1) by omega]

def FlatOk (ks : List IntKind) (cs : List Value) : Prop := cs.length = ks.length ∧ ∀ (i : Nat) (k : IntKind), ks[i]? = some k → ∃ n, cs[i]? = some (.int k n) ∧ Fits k n

theorem FlatOk.append {ks ks' : List IntKind} {cs cs' : List Value} (h : FlatOk ks cs) (h' : FlatOk ks' cs') : FlatOk (ks ++ ks') (cs ++ cs') := by
  refine ⟨by simp [h.1, h'.1], fun i k hk => ?_⟩
  by_cases hi : i < ks.length
  · rw [List.getElem?_append_left hi] at hk
    obtain ⟨n, h1, h2⟩ := h.2 i k hk
    exact ⟨n, by rw [List.getElem?_append_left (by rw [h.1]; exact hi)]; exact h1, h2⟩
  · rw [List.getElem?_append_right (by omega)] at hk
    obtain ⟨n, h1, h2⟩ := h'.2 _ k hk
    exact ⟨n, by rw [List.getElem?_append_right (by rw [h.1]; omega), h.1]; exact h1, h2⟩

theorem fits_of_wf {k : IntKind} {n : Int} (h : (Lit.int k n).wf = true) : Fits k n := by simpa [Lit.wf, Fits] using h

section
variable {H : Type} {enc : TypeId × Value → H} {P : Program} {w : World} {base : Nat} {spare : Nat → Bool} {held : Bool}

theorem mapM_got {α β : Type} {f : α → Option β} : ∀ {l : List α} {r : List β}, l.mapM f = some r → r.length = l.length ∧ ∀ (i : Nat) (x : α), l[i]? = some x → ∃ y, r[i]? = some y ∧ f x = some y
  | [], r, h => by simp at h; subst h; simp
  | x :: l, r, h => by
    rw [List.mapM_cons] at h
    cases h1 : f x with
    | none => simp [h1] at h
    | some y =>
      cases h2 : l.mapM f with
      | none => simp [h1, h2] at h
      | some ys =>
        simp [h1, h2] at h; subst h
        obtain ⟨g1, g2⟩ := mapM_got h2
        refine ⟨by simp [g1], fun i z hz => ?_⟩
        cases i with
        | zero => simp at hz; subst hz; exact ⟨y, by simp, h1⟩
        | succ i => simp at hz; obtain ⟨y', q1, q2⟩ := g2 i z hz; exact ⟨y', by simpa using q1, q2⟩

theorem flat_chunks {ks : List IntKind} {cs : List Value} {sz : Nat} (hsz : ks.length = sz) : ∀ (n : Nat), (∀ i, i < n → FlatOk ks ((cs.drop (i * sz)).take sz)) → FlatOk (List.replicate n ks).flatten (cs.take (n * sz))
  | 0, _ => by simp [FlatOk]
  | n + 1, h => by
    have h1 := flat_chunks hsz n fun i hi => h i (by omega)
    have h2 := h n (by omega)
    have e1 : (List.replicate (n + 1) ks).flatten = (List.replicate n ks).flatten ++ ks := by
      rw [List.replicate_succ']; simp
    have e2 : cs.take ((n + 1) * sz) = cs.take (n * sz) ++ (cs.drop (n * sz)).take sz := by
      rw [Nat.succ_mul, List.take_add]
    rw [e1, e2]; exact h1.append h2

theorem trod_kinds : ∀ (d : Nat) (t : TypeId) (ks : List IntKind), kindsT P d t = some ks → ∀ (fuel : Nat) (cs : List Value) (x : DataW H × List MemPlace), DataW.trod enc P w base spare held fuel t cs = some x → FlatOk ks cs
  | 0, t, ks, h, _, _, _, _ => by simp [kindsT] at h
  | d + 1, t, ks, h, 0, _, _, hx => by simp [DataW.trod] at hx
  | d + 1, t, ks, h, fuel + 1, cs, x, hx => by
    simp only [kindsT] at h
    split at h
    · rename_i l hl
      split at h
      · rename_i hlen
        have hlen := Nat.eq_of_beq_eq_true hlen
        simp only [Option.some.injEq] at h; subst h
        split at hl
        · rename_i k hu
          simp only [Option.some.injEq] at hl; subst hl
          simp only [DataW.trod, hu] at hx
          split at hx <;> rename_i e <;> first | (simp at e; done) | skip
          all_goals first | (simp at hx; done) | skip
          simp only [Option.some.injEq, TypeDesc.int.injEq] at e
          subst e
          split at hx
          · rename_i hw
            refine ⟨rfl, fun i k' hk' => ?_⟩
            cases i with
            | zero => simp at hk'; subst hk'; exact ⟨_, by rw [hw.1]; rfl, fits_of_wf hw.2⟩
            | succ i => simp at hk'
          · simp at hx
        · rename_i n e hu
          split at hl
          · rename_i l0 hl0
            simp only [Option.some.injEq] at hl; subst hl
            simp only [DataW.trod, hu] at hx
            split at hx
            · rename_i hcs
              cases hm : (List.range n).mapM (fun i => DataW.trod enc P w base spare held fuel e ((cs.drop (i * P.cellsOf e)).take (P.cellsOf e))) with
              | none => simp [hm] at hx
              | some ys =>
                obtain ⟨_, g2⟩ := mapM_got hm
                have each : ∀ i, i < n → FlatOk l0 ((cs.drop (i * P.cellsOf e)).take (P.cellsOf e)) := fun i hi => by
                  obtain ⟨y, _, q⟩ := g2 i i (by simp [hi])
                  exact trod_kinds d e l0 hl0 fuel _ y q
                by_cases hn : n = 0
                · subst hn
                  simp only [List.replicate_zero, List.flatten_nil, List.length_nil] at hlen ⊢
                  exact ⟨by rw [hcs, ← hlen]; rfl, by simp⟩
                · have hsz := kindsT_len hl0
                  have := flat_chunks hsz n each
                  have e3 : cs.take (n * P.cellsOf e) = cs := List.take_of_length_le (by rw [hcs, ← hlen, ← hsz]; simp)
                  rwa [e3] at this
            · simp at hx
          · simp at hl
        · rename_i fs hu
          split at hl
          · rename_i n0 hnf ht
            split at hl
            · rename_i ls hls
              simp only [Option.some.injEq] at hl; subst hl
              simp only [DataW.trod, hu] at hx
              split at hx
              · rename_i hcs
                cases hm : fs.toList.mapM (fun f => DataW.trod enc P w base spare held fuel f.type ((cs.drop f.offset).take (P.cellsOf f.type))) with
                | none => simp [hm] at hx
                | some ys =>
                  obtain ⟨_, g2⟩ := mapM_got hm
                  obtain ⟨k1, k2⟩ := mapM_got hls
                  -- field by field
                  have key : ∀ (fl : List Field) (ll : List (List IntKind)) (n : Nat), tightFields P fl n = some n0 → ll.length = fl.length →
                      (∀ (i : Nat) (f : Field), fl[i]? = some f → ∃ l, ll[i]? = some l ∧ kindsT P d f.type = some l ∧ FlatOk l ((cs.drop f.offset).take (P.cellsOf f.type))) →
                      FlatOk ll.flatten ((cs.drop n).take ll.flatten.length) := by
                    intro fl
                    induction fl with
                    | nil =>
                      intro ll n _ hl _
                      have : ll = [] := by simpa using hl
                      subst this; simp [FlatOk]
                    | cons f fl ih =>
                      intro ll n htf hl hf
                      cases ll with
                      | nil => simp at hl
                      | cons l ll =>
                        simp only [tightFields] at htf
                        split at htf
                        · rename_i hoff
                          obtain ⟨l', h1, h2, h3⟩ := hf 0 f (by simp)
                          simp at h1; subst h1
                          rw [hoff] at h3
                          have hlen2 := kindsT_len h2
                          have hr := ih ll (n + P.cellsOf f.type) htf (by simpa using hl) fun i f' hf' => by
                            obtain ⟨l'', q1, q2⟩ := hf (i + 1) f' (by simpa using hf')
                            exact ⟨l'', by simpa using q1, q2⟩
                          have e : (cs.drop n).take (l :: ll).flatten.length = (cs.drop n).take (P.cellsOf f.type) ++ (cs.drop (n + P.cellsOf f.type)).take ll.flatten.length := by
                            rw [List.flatten_cons, List.length_append, hlen2, List.take_add, List.drop_drop]
                          rw [e, List.flatten_cons]
                          exact h3.append hr
                        · simp at htf
                  have := key fs.toList ls 0 hnf k1 fun i f hf => by
                    obtain ⟨y, _, q⟩ := g2 i f hf
                    obtain ⟨l, q1, q2⟩ := k2 i f hf
                    exact ⟨l, q1, q2, trod_kinds d f.type l q2 fuel _ y q⟩
                  rw [List.drop_zero, List.take_of_length_le (by rw [hcs, hlen]; exact Nat.le_refl _)] at this
                  exact this
              · simp at hx
            · simp at hl
          · simp at hl
        · simp at hl
      · simp at h
    · simp at h

theorem not_agg_cells {v : Value} (h : isAggV v = false) : v.cells.toList = [v] := by cases v <;> simp [isAggV] at h <;> rfl

/-- the numbers of cells -/
def numAt (cs : List Value) (i : Nat) : Int := match cs[i]? with | some (.int _ n) => n | _ => 0

theorem flat_den {w0 : World} {O : Own} {ρ : Rho} : ∀ {ks : List IntKind} {cs : List Value} {a : Nat → Int} {i : Nat}, cs.length = ks.length → (∀ (j : Nat) (k : IntKind), ks[j]? = some k → cs[j]? = some (.int k (a (i + j))) ∧ Fits k (a (i + j))) → DenL w0 O ρ (svF ks a i) cs
  | [], cs, a, i, hl, _ => by simp [svF, DenL]; simpa using hl
  | k :: ks, cs, a, i, hl, h => by
    cases cs with
    | nil => simp at hl
    | cons c cs =>
      simp only [svF, DenL]
      obtain ⟨h1, h2⟩ := h 0 k (by simp)
      simp at h1
      subst h1
      refine ⟨_, cs, rfl, by simp only [DenC]; exact ⟨trivial, h2⟩, rfl, flat_den (by simpa using hl) fun j k' hj => ?_⟩
      have := h (j + 1) k' (by simpa using hj)
      rw [show i + 1 + j = i + (j + 1) by omega]
      simpa using this

theorem FlatOk.den {w0 : World} {O : Own} {ρ : Rho} {ks : List IntKind} {cs : List Value} (h : FlatOk ks cs) : DenL w0 O ρ (svF ks (numAt cs) 0) cs ∧ ∀ (i : Nat) (k : IntKind), ks[i]? = some k → Fits k (numAt cs i) := by
  have each : ∀ (i : Nat) (k : IntKind), ks[i]? = some k → cs[i]? = some (.int k (numAt cs i)) ∧ Fits k (numAt cs i) := fun i k hk => by
    obtain ⟨n, h1, h2⟩ := h.2 i k hk
    have : numAt cs i = n := by simp [numAt, h1]
    rw [this]; exact ⟨h1, h2⟩
  exact ⟨flat_den h.1 fun j k hj => by rw [Nat.zero_add]; exact each j k hj, fun i k hk => (each i k hk).2⟩

theorem open_num {t : TypeId} {k : IntKind} {v : Value} {d : DataW H} {ps : List MemPlace} {r : Reach} {b0 : Nat} (ht : P.underlying t = some (.int k)) (hval : Value.okWide P w r b0 t v) (hd : DataW.Trod enc P w base spare held t v d ps) (w0 : World) (O : Own) (ρ : Rho) :
    ∃ n, Fits k n ∧ DenV w0 O ρ (.int k n) v := by
  obtain ⟨n, rfl, _, _, hw⟩ := open_int ht hval hd
  exact ⟨n, fits_of_wf hw, den_int (fits_of_wf hw)⟩

theorem open_flat {t : TypeId} {ks : List IntKind} {v : Value} {d : DataW H} {ps : List MemPlace} {r : Reach} {b0 : Nat} (hk : kindsT P 8 t = some ks) (ha : isAggT P t = true) (hval : Value.okWide P w r b0 t v) (hd : DataW.Trod enc P w base spare held t v d ps) (w0 : World) (O : Own) (ρ : Rho) :
    ∃ a : Nat → Int, (∀ (i : Nat) (k : IntKind), ks[i]? = some k → Fits k (a i)) ∧ DenV w0 O ρ (.agg (svF ks a 0)) v := by
  obtain ⟨fuel, hf⟩ := hd
  have hfl := trod_kinds 8 t ks hk fuel _ _ hf
  obtain ⟨h1, h2⟩ := hfl.den (w0 := w0) (O := O) (ρ := ρ)
  have hv : ∃ arr, v = .agg arr := by
    unfold isAggT at ha
    unfold Value.okWide at hval
    split at hval
    · obtain ⟨cs, e, _⟩ := hval; exact ⟨cs, e⟩
    · obtain ⟨cs, e, _⟩ := hval; exact ⟨cs, e⟩
    · rename_i h3 h4
      exfalso
      split at ha
      · exact h3 _ (by assumption)
      · exact h4 _ _ (by assumption)
      · simp at ha
  obtain ⟨arr, rfl⟩ := hv
  exact ⟨_, h2, den_agg h1⟩

/-- a slice of numbers -/
theorem open_slice {W : World} {t e : TypeId} {k : IntKind} {v : Value} {d : DataW H} {ps : List MemPlace} {r : Reach} {b0 : Nat} (ht : P.underlying t = some (.slice e)) (he : P.underlying e = some (.int k)) (hc : P.cellsOf e = 1)
    (hval : Value.okWide P W r b0 t v) (hd : DataW.Trod enc P W base spare held t v d ps) (ρ : Rho) :
    ∃ l : List Int, (∀ n ∈ l, Fits k n) ∧ l.length ≤ maxLen ∧ (d = .nil ∧ l = [] ∨ ∃ r, d = .slice (lits k l) r) ∧ DenV W (O0 W) ρ (.roi k l) v := by
  obtain ⟨fuel, hf⟩ := hd
  have hv : isAggV v = false := by
    unfold Value.okWide at hval
    rw [ht] at hval
    simp only at hval
    unfold Cell.okWide at hval
    rw [ht] at hval
    simp only at hval
    cases v <;> simp [isAggV]
    all_goals (simp [Cell.ok, ht] at hval)
  rw [not_agg_cells hv] at hf
  rcases open_ints ht he hc hf with ⟨h1, h2⟩ | ⟨a, len, cap, zs, h1, h2, h3, h4, h5, h6, h7, h8⟩
  · simp at h1; subst h1
    simp at h2
    refine ⟨[], by simp, Nat.zero_le _, .inl ⟨h2.1, rfl⟩, den_cell rfl rfl ?_⟩
    simp only [DenC]
    exact ⟨none, 0, rfl, by simp, by simp, by simp⟩
  · simp at h1; subst h1
    have hlen : len ≤ zs.length := by rw [h5]; split <;> omega
    simp only [Prod.mk.injEq] at h6
    refine ⟨zs.take len, fun n hn => fits_of_wf (h8 n (List.mem_of_mem_take hn)), by simp; omega, .inr ⟨_, h6.1⟩, den_cell rfl rfl ?_⟩
    simp only [DenC]
    have hl2 : (zs.take len).length = len := by simp; omega
    refine ⟨some a, cap, by rw [hl2], by omega, fun hpos => ?_, fun n hn => fits_of_wf (h8 n (List.mem_of_mem_take hn))⟩
    have hspot : a.spot = none := by
      have := h7 0 (by omega)
      have h9 : W.cell? (a.add 0) = _ := this
      unfold World.cell? at h9
      cases hs : a.spot with
      | none => rfl
      | some s =>
        have hsa : (a.add 0).spot.isSome = true := by
          unfold Addr.add; simp [hs]
        split at h9
        · rw [if_pos hsa] at h9; simp at h9
        · simp at h9
    obtain ⟨b, o, sp⟩ := a
    simp only at hspot; subst hspot
    refine ⟨b, o, rfl, fun j u hj => ?_⟩
    rw [List.getElem?_map, List.getElem?_take] at hj
    split at hj
    · rename_i hjl
      have := h7 j (by omega)
      have this : W.cell? ((adr b o).add j) = _ := this
      rw [adr_add] at this
      show W.cell? (adr b (o + j)) = some u
      rw [this]
      rw [List.getElem?_eq_getElem (by omega)] at hj
      simp at hj
      rw [← hj, List.getD_eq_getElem?_getD, List.getElem?_eq_getElem (by omega)]; rfl
    · simp at hj
end
end Go.Vx

namespace Go.Vx

/-! ### what is known of numbers because they are told of -/
mutual
def factsC : SV → Prop
  | .int k n => Fits k n
  | .lit k n => Fits k n
  | .agg cs => factsL cs
  | .tuple cs => factsL cs
  | .roi k l => ∀ n ∈ l, Fits k n
  | .rob _ k l => ∀ n ∈ l, Fits k n
  | _ => True
def factsL : List SV → Prop
  | [] => True
  | c :: cs => factsC c ∧ factsL cs
end

section
variable {w0 : World} {O : Own} {ρ : Rho}
mutual
theorem denC_facts : ∀ (c : SV) (vs : List Value), DenC w0 O ρ c vs → factsC c
  | .lit k n, _, x => by simp only [DenC] at x; exact x.2
  | .int k n, _, x => by simp only [DenC] at x; exact x.2
  | .agg cs, vs, x => by simp only [DenC] at x; exact denL_facts cs vs x
  | .tuple cs, vs, x => by simp only [DenC] at x; obtain ⟨arr, _, h⟩ := x; exact denT_facts cs _ h
  | .roi k l, _, x => by simp only [DenC] at x; obtain ⟨_, _, _, _, _, h⟩ := x; exact h
  | .rob q k l, _, x => by simp only [DenC] at x; obtain ⟨_, _, _, _, _, h⟩ := x; exact h
  | .any, _, _ => trivial
  | .sbool _, _, _ => trivial
  | .bool _, _, _ => trivial
  | .raw _, _, _ => trivial
  | .ptr _ _, _, _ => trivial
  | .sptr .., _, _ => trivial
  | .sl .., _, _ => trivial
  | .own _, _, _ => trivial
  | .ro .., _, _ => trivial
  | .rop _, _, _ => trivial
  | .func .., _, _ => trivial
theorem denL_facts : ∀ (cs : List SV) (vs : List Value), DenL w0 O ρ cs vs → factsL cs
  | [], _, _ => trivial
  | c :: cs, vs, x => by
    simp only [DenL] at x
    obtain ⟨v, r, _, h2, _, h4⟩ := x
    exact ⟨denC_facts c _ h2, denL_facts cs r h4⟩
theorem denT_facts : ∀ (cs : List SV) (vs : List Value), DenT w0 O ρ cs vs → factsL cs
  | [], _, _ => trivial
  | c :: cs, vs, x => by
    simp only [DenT] at x
    obtain ⟨v, r, _, h2, h4⟩ := x
    refine ⟨?_, denT_facts cs r h4⟩
    rcases h2 with rfl | ⟨_, h⟩
    · trivial
    · exact denC_facts c _ h
end
end

theorem denV_norm {w0 : World} {O : Own} {ρ : Rho} {c : SV} {v : Value} (h : DenV w0 O ρ c v) : DenV w0 O ρ (normC c) v := by
  rcases h with rfl | ⟨e1, e2⟩
  · left; simp [normC]
  · right; exact ⟨(normC_agg c).trans e1, denC_norm c _ e2⟩

theorem FnOk.facts {g : Ctx} {f : FuncId} {args : List SV} {B : List Body} {out : OpOut} (h : factsL args → FnOk g f args B out) : FnOk g f args B out :=
  fun w0 O hG ρ Φ vs w d x hr => h (denT_facts _ _ d) w0 O hG ρ Φ vs w d x hr

theorem facts_svF : ∀ {ks : List IntKind} {a : Nat → Int} {i : Nat}, factsL (svF ks a i) → ∀ (j : Nat) (k : IntKind), ks[j]? = some k → Fits k (a (i + j))
  | [], _, _, _, j, k, h => by simp at h
  | k :: ks, a, i, h, 0, k', hj => by simp at hj; subst hj; exact h.1
  | k :: ks, a, i, h, j + 1, k', hj => by
    have := facts_svF h.2 j k' (by simpa using hj)
    rwa [show i + 1 + j = i + (j + 1) by omega] at this

theorem fits_u64 {n : Int} (h : Fits .u64 n) : ∃ m : Nat, n = m ∧ m < 18446744073709551616 := by
  obtain ⟨h1, h2⟩ := h
  have h1 : (0 : Int) ≤ n := h1
  have h2 : n ≤ 18446744073709551615 := h2
  exact ⟨n.toNat, by omega, by omega⟩
theorem fits_u32 {n : Int} (h : Fits .u32 n) : ∃ m : Nat, n = m ∧ m < 4294967296 := by
  obtain ⟨h1, h2⟩ := h
  have h1 : (0 : Int) ≤ n := h1
  have h2 : n ≤ 4294967295 := h2
  exact ⟨n.toNat, by omega, by omega⟩
theorem fits_u8 {n : Int} (h : Fits .u8 n) : ∃ m : Nat, n = m ∧ m < 256 := by
  obtain ⟨h1, h2⟩ := h
  have h1 : (0 : Int) ≤ n := h1
  have h2 : n ≤ 255 := h2
  exact ⟨n.toNat, by omega, by omega⟩
theorem fits_int {n : Int} (h : Fits .i64 n) : -9223372036854775808 ≤ n ∧ n ≤ 9223372036854775807 := h

/-- numbers a i, a (i + 1), .. -/
def listF : Nat → (Nat → Int) → Nat → List Int
  | 0, _, _ => []
  | n + 1, a, i => a i :: listF n a (i + 1)

theorem listF_get : ∀ (n : Nat) (a : Nat → Int) (i j : Nat), (listF n a i)[j]? = if j < n then some (a (i + j)) else none
  | 0, _, _, j => by simp [listF]
  | n + 1, a, i, 0 => by simp [listF]
  | n + 1, a, i, j + 1 => by
    simp only [listF, List.getElem?_cons_succ, listF_get n a (i + 1) j, Nat.add_lt_add_iff_right]
    rw [show i + 1 + j = i + (j + 1) by omega]
theorem listF_length : ∀ (n : Nat) (a : Nat → Int) (i : Nat), (listF n a i).length = n
  | 0, _, _ => rfl
  | n + 1, a, i => by simp [listF, listF_length n]
theorem listF_eq {n : Nat} {a b : Nat → Int} {i : Nat} : listF n a i = listF n b i ↔ ∀ j, j < n → a (i + j) = b (i + j) := by
  constructor
  · intro h j hj
    have := congrArg (fun l => l[j]?) h
    simp only [listF_get, if_pos hj] at this
    simpa using this
  · intro h
    apply List.ext_getElem?
    intro j
    rw [listF_get, listF_get]
    split
    · rw [h j (by assumption)]
    · rfl
theorem listF_eq0 {n : Nat} {a b : Nat → Int} : listF n a 0 = listF n b 0 ↔ ∀ j, j < n → a j = b j := by
  rw [listF_eq]; simp

theorem listF_getD (l : List Int) : ∀ (n i : Nat), n + i = l.length → listF n (fun j => l.getD j 0) i = l.drop i
  | 0, i, h => by
    have : l.length ≤ i := by omega
    rw [List.drop_of_length_le this]; rfl
  | n + 1, i, h => by
    simp only [listF]
    have hi : i < l.length := by omega
    rw [listF_getD l n (i + 1) (by omega), List.drop_eq_getElem_cons hi]
    congr 1
    simp [List.getElem?_eq_getElem hi]

/-- cells that are numbers of these kinds -/
theorem nums_svF {w0 : World} {O : Own} {ρ : Rho} {ks : List IntKind} {cs : List SV} {ns : List Int} (h : numsAs ks cs = some ns) {vs : List Value} (hd : DenL w0 O ρ cs vs) : DenL w0 O ρ (svF ks (fun j => ns.getD j 0) 0) vs ∧ ns = listF ks.length (fun j => ns.getD j 0) 0 := by
  obtain ⟨e1, l1, f1⟩ := numsAs_den ks cs ns vs h hd
  subst e1
  refine ⟨flat_den (by simp [l1]) fun j k hj => ?_, ?_⟩
  · have hjl : j < ks.length := (List.getElem?_eq_some_iff.1 hj).1
    have hn : ns[j]? = some (ns.getD j 0) := by
      rw [List.getD_eq_getElem?_getD, List.getElem?_eq_getElem (by omega)]; rfl
    rw [Nat.zero_add]
    exact ⟨by rw [List.getElem?_zipWith, hj, hn], f1 j k _ hj hn⟩
  · rw [listF_getD ns ks.length 0 (by omega)]; simp


/-- whatever the one stands for, the other does -/
def DenImp (c c' : SV) : Prop := ∀ w0 O ρ v, DenV w0 O ρ c v → DenV w0 O ρ c' v
theorem DenImp.refl (c : SV) : DenImp c c := fun _ _ _ _ h => h
def ImpL : List SV → List SV → Prop
  | [], [] => True
  | c :: cs, d :: ds => DenImp c d ∧ ImpL cs ds
  | _, _ => False
theorem ImpL.den {w0 : World} {O : Own} {ρ : Rho} : ∀ {cs ds : List SV} {vs : List Value}, ImpL cs ds → DenT w0 O ρ cs vs → DenT w0 O ρ ds vs
  | [], [], _, _, h => h
  | c :: cs, d :: ds, vs, hi, h => by
    simp only [DenT] at h ⊢
    obtain ⟨v, r, e, h1, h2⟩ := h
    exact ⟨v, r, e, hi.1 _ _ _ _ h1, ImpL.den hi.2 h2⟩
  | [], _ :: _, _, h, _ => h.elim
  | _ :: _, [], _, h, _ => h.elim
theorem FnOk.imp {g : Ctx} {f : FuncId} {args args' : List SV} {B : List Body} {out : OpOut} (h : FnOk g f args' B out) (hi : ImpL args args') : FnOk g f args B out := h.args fun _ _ _ _ d => hi.den d

theorem numsAs_len : ∀ {ks : List IntKind} {cs : List SV} {ns : List Int}, numsAs ks cs = some ns → ns.length = ks.length ∧ cs.length = ks.length
  | [], [], ns, h => by simp [numsAs] at h; subst h; simp
  | [], _ :: _, ns, h => by simp [numsAs] at h
  | _ :: _, [], ns, h => by simp [numsAs] at h
  | k :: ks, c :: cs, ns, h => by
    simp only [numsAs] at h
    split at h
    · rename_i l k' n r h1 h2
      split at h
      · simp only [Option.some.injEq] at h; subst h
        obtain ⟨g1, g2⟩ := numsAs_len h2
        simp [g1, g2]
      · simp at h
    · simp at h

theorem rep_get {α : Type} {n j : Nat} {k : α} (h : j < n) : (List.replicate n k)[j]? = some k := by rw [List.getElem?_replicate, if_pos h]

/-- the numbers of a list, each by its place -/
def atL (l : List Int) : Nat → Int := fun j => l.getD j 0
theorem listF_atL (l : List Int) : listF l.length (atL l) 0 = l := by
  have := listF_getD l l.length 0 (by omega)
  rw [List.drop_zero] at this
  exact this
theorem nums_list {ks : List IntKind} {cs : List SV} {ns : List Int} (h : numsAs ks cs = some ns) : ns = listF ks.length (atL ns) 0 := by
  rw [← (numsAs_len h).1, listF_atL]
theorem nums_imp {ks : List IntKind} {cs : List SV} {ns : List Int} (h : numsAs ks cs = some ns) : DenImp (.agg cs) (.agg (svF ks (atL ns) 0)) := fun w0 O ρ v hd => by
  obtain ⟨arr, rfl, h2⟩ := denV_agg hd
  exact den_agg (nums_svF h h2).1

theorem svF_cong : ∀ {ks : List IntKind} {a b : Nat → Int} {i : Nat}, (∀ j, j < ks.length → a (i + j) = b (i + j)) → svF ks a i = svF ks b i
  | [], _, _, _, _ => rfl
  | k :: ks, a, b, i, h => by
    simp only [svF]
    have h0 : a i = b i := h 0 (by simp)
    have h1 : svF ks a (i + 1) = svF ks b (i + 1) := svF_cong fun j hj => by
      have := h (j + 1) (by simpa using hj)
      rwa [show i + (j + 1) = i + 1 + j by omega] at this
    rw [h0, h1]

theorem allC_cons {p : Prop} {C : List Prop} : AllC (p :: C) ↔ p ∧ AllC C :=
  ⟨fun h => ⟨h p (.head _), fun q hq => h q (.tail _ hq)⟩, fun ⟨h1, h2⟩ q hq => by
    rcases List.mem_cons.1 hq with e | e
    · rw [e]; exact h1
    · exact h2 q e⟩
theorem allC_nil : AllC [] ↔ True := by simp [AllC]

/-- a function of plain arguments -/
theorem FnOk.pure {g : Ctx} (hU : CtxU g) {f : FuncId} {args : List SV} {v : SV} {n : Nat} {pl : List Plan} {C : List Prop} (h : runF g n pl f args [] [] = some (v, [], C)) (hC : AllC C) : FnOk g f args [] { val := v } :=
  FnOk.run (out := { val := v }) hU h hC (by simp [upto]) rfl (by decide) (by simp) (by simp)

end Go.Vx

/- Plain laws of chapter 1: no program in sight. -/
namespace Go.Vx

theorem some_eq {x : Nat} (h : x < 18446744073709551616) : (x ||| (18446744073709551616 - x) % 18446744073709551616) / 9223372036854775808 = if x = 0 then 0 else 1 := by
  split
  · subst_vars; decide
  · have h1 : (18446744073709551616 - x) % 18446744073709551616 = 18446744073709551616 - x := Nat.mod_eq_of_lt (by omega)
    rw [h1]
    have h2 : x ||| (18446744073709551616 - x) < 2 ^ 64 := Nat.or_lt_two_pow (by omega) (by omega)
    have h3 : x ≤ x ||| (18446744073709551616 - x) := Nat.left_le_or
    have h4 : 18446744073709551616 - x ≤ x ||| (18446744073709551616 - x) := Nat.right_le_or
    omega

theorem xor_eq_zero {a b : Nat} : a ^^^ b = 0 ↔ a = b := by
  constructor
  · intro h
    have : a ^^^ b ^^^ b = 0 ^^^ b := by rw [h]
    rwa [Nat.xor_assoc, Nat.xor_self, Nat.xor_zero, Nat.zero_xor] at this
  · rintro rfl; exact Nat.xor_self a

def equalE (a b : Nat) : Nat := 1 ^^^ (a ^^^ b ||| (18446744073709551616 - (a ^^^ b)) % 18446744073709551616) / 9223372036854775808
theorem equalE_eq {a b : Nat} (ha : a < 18446744073709551616) (hb : b < 18446744073709551616) : equalE a b = if a = b then 1 else 0 := by
  unfold equalE
  rw [some_eq (Nat.xor_lt_two_pow (n := 64) ha hb)]
  by_cases h : a = b
  · rw [if_pos h, if_pos (xor_eq_zero.2 h)]; decide
  · rw [if_neg h, if_neg (fun e => h (xor_eq_zero.1 e))]; decide

def lessE (a b : Nat) : Nat := (18446744073709551616 - 1 - a &&& b ||| 18446744073709551616 - 1 - (a ^^^ b) &&& (a + (18446744073709551616 - b)) % 18446744073709551616) / 9223372036854775808

theorem top_bit {v : Nat} (h : v < 18446744073709551616) : v / 9223372036854775808 = (v.testBit 63).toNat := by
  rw [Nat.testBit_eq_decide_div_mod_eq]
  have : v / 9223372036854775808 < 2 := by omega
  have e : (2 : Nat) ^ 63 = 9223372036854775808 := by decide
  rw [e]
  have h2 : v / 9223372036854775808 = 0 ∨ v / 9223372036854775808 = 1 := by omega
  rcases h2 with h2 | h2 <;> rw [h2] <;> decide
theorem top_dec {v : Nat} (h : v < 18446744073709551616) : v.testBit 63 = decide (9223372036854775808 ≤ v) := by
  have := top_bit h
  cases e : v.testBit 63
  · rw [e] at this; simp at this; simp; omega
  · rw [e] at this; simp at this; simp; omega
theorem top_not {v : Nat} (h : v < 18446744073709551616) : (18446744073709551616 - 1 - v).testBit 63 = !v.testBit 63 := by
  rw [top_dec h, top_dec (by omega)]
  by_cases e : 9223372036854775808 ≤ v
  · simp [e]; omega
  · simp [e]; omega

theorem lessE_eq {a b : Nat} (ha : a < 18446744073709551616) (hb : b < 18446744073709551616) : lessE a b = if a < b then 1 else 0 := by
  unfold lessE
  have hx : a ^^^ b < 18446744073709551616 := Nat.xor_lt_two_pow (n := 64) ha hb
  have hr : (a + (18446744073709551616 - b)) % 18446744073709551616 < 18446744073709551616 := Nat.mod_lt _ (by decide)
  rw [top_bit]
  · rw [Nat.testBit_or, Nat.testBit_and, Nat.testBit_and, top_not ha, top_not hx, Nat.testBit_xor, top_dec ha, top_dec hb, top_dec hr]
    by_cases h1 : 9223372036854775808 ≤ a <;> by_cases h2 : 9223372036854775808 ≤ b <;> by_cases h3 : a < b
    all_goals simp [h1, h2, h3]
    all_goals omega
  · refine Nat.or_lt_two_pow (n := 64) (Nat.lt_of_le_of_lt Nat.and_le_right hb) (Nat.lt_of_le_of_lt Nat.and_le_right hr)

def allE (s : Nat) : Nat := (18446744073709551616 - s % 2) % 18446744073709551616
theorem allE_eq (s : Nat) : allE s = if s % 2 = 1 then 18446744073709551615 else 0 := by
  unfold allE
  rcases Nat.mod_two_eq_zero_or_one s with h | h <;> rw [h] <;> decide

theorem ones_and {x : Nat} (n : Nat) (h : x < 2 ^ n) : 2 ^ n - 1 &&& x = x := by
  rw [Nat.and_comm, Nat.and_two_pow_sub_one_eq_mod, Nat.mod_eq_of_lt h]

def pickE (s a b : Nat) : Nat := b ^^^ (18446744073709551616 - s % 2) % 18446744073709551616 &&& (a ^^^ b)
theorem pickE_eq (s : Nat) {a b : Nat} (ha : a < 18446744073709551616) (hb : b < 18446744073709551616) : pickE s a b = if s % 2 = 1 then a else b := by
  have hx : a ^^^ b < 2 ^ 64 := Nat.xor_lt_two_pow ha hb
  show b ^^^ (allE s &&& (a ^^^ b)) = _
  rw [allE_eq]
  split
  · rw [show (18446744073709551615 : Nat) = 2 ^ 64 - 1 by decide, ones_and 64 hx, Nat.xor_comm a b, ← Nat.xor_assoc, Nat.xor_self, Nat.zero_xor]
  · rw [Nat.zero_and, Nat.xor_zero]

def pick8E (s a b : Nat) : Nat := b ^^^ (18446744073709551616 - s % 2) % 18446744073709551616 % 256 &&& (a ^^^ b)
theorem pick8E_eq (s : Nat) {a b : Nat} (ha : a < 256) (hb : b < 256) : pick8E s a b = if s % 2 = 1 then a else b := by
  have hx : a ^^^ b < 2 ^ 8 := Nat.xor_lt_two_pow ha hb
  show b ^^^ (allE s % 256 &&& (a ^^^ b)) = _
  rw [allE_eq]
  split
  · rw [show (18446744073709551615 % 256 : Nat) = 2 ^ 8 - 1 by decide, ones_and 8 hx, Nat.xor_comm a b, ← Nat.xor_assoc, Nat.xor_self, Nat.zero_xor]
  · rw [Nat.zero_mod, Nat.zero_and, Nat.xor_zero]

/-- a limb of a and one of b, exchanged or not -/
def swapA (s a b : Nat) : Nat := a ^^^ ((18446744073709551616 - s % 2) % 18446744073709551616 &&& (a ^^^ b))
def swapB (s a b : Nat) : Nat := b ^^^ ((18446744073709551616 - s % 2) % 18446744073709551616 &&& (a ^^^ b))
theorem swapB_eq (s : Nat) {a b : Nat} (ha : a < 18446744073709551616) (hb : b < 18446744073709551616) : swapB s a b = if s % 2 = 1 then a else b := pickE_eq s ha hb
theorem swapA_eq (s : Nat) {a b : Nat} (ha : a < 18446744073709551616) (hb : b < 18446744073709551616) : swapA s a b = if s % 2 = 1 then b else a := by
  have := pickE_eq s hb ha
  unfold pickE at this
  unfold swapA
  rw [Nat.xor_comm a b]; exact this

/-- what is unlike in two rows -/
def orF : Nat → (Nat → Int) → (Nat → Int) → Nat
  | 0, _, _ => 0
  | n + 1, a, b => orF n a b ||| (a n).toNat ^^^ (b n).toNat
theorem orF_lt {a b : Nat → Int} : ∀ {n : Nat}, (∀ j, j < n → Fits .u8 (a j) ∧ Fits .u8 (b j)) → orF n a b < 256 ∧ (orF n a b = 0 ↔ ∀ j, j < n → a j = b j)
  | 0, _ => ⟨by simp [orF], by simp [orF]⟩
  | n + 1, h => by
    obtain ⟨h1, h2⟩ := orF_lt (n := n) fun j hj => h j (by omega)
    obtain ⟨fa, fb⟩ := h n (by omega)
    obtain ⟨x, hx, hx'⟩ := fits_u8 fa
    obtain ⟨y, hy, hy'⟩ := fits_u8 fb
    simp only [orF]
    refine ⟨Nat.or_lt_two_pow (n := 8) h1 (Nat.xor_lt_two_pow (by rw [hx]; exact hx') (by rw [hy]; exact hy')), ?_⟩
    rw [Nat.or_eq_zero_iff, h2, xor_eq_zero, hx, hy]
    constructor
    · rintro ⟨g1, g2⟩ j hj
      by_cases e : j = n
      · subst e; rw [hx, hy]
        have : x = y := by simpa using g2
        rw [this]
      · exact g1 j (by omega)
    · intro g
      refine ⟨fun j hj => g j (by omega), ?_⟩
      have := g n (by omega)
      rw [hx, hy] at this
      have : x = y := by omega
      rw [this]

def eqArrE (n : Nat) (a b : Nat → Int) : Nat := 1 ^^^ (orF n a b ||| (18446744073709551616 - orF n a b) % 18446744073709551616) / 9223372036854775808
theorem eqArrE_eq {n : Nat} {a b : Nat → Int} (h : ∀ j, j < n → Fits .u8 (a j) ∧ Fits .u8 (b j)) : eqArrE n a b = if listF n a 0 = listF n b 0 then 1 else 0 := by
  obtain ⟨h1, h2⟩ := orF_lt h
  unfold eqArrE
  rw [some_eq (by omega)]
  by_cases e : listF n a 0 = listF n b 0
  · rw [if_pos e, if_pos (h2.2 (listF_eq0.1 e))]; decide
  · rw [if_neg e, if_neg (fun z => e (listF_eq0.2 (h2.1 z)))]; decide

end Go.Vx

namespace Go.Vx

/-! ### loops -/
noncomputable section
def findLoop (key : Nat) : Code → Option Code
  | .seq a b => match findLoop key a with | some c => some c | none => findLoop key b
  | .block _ c => findLoop key c
  | .loop c => match Nat.beq (firstRegion c) key with | true => some c | false => findLoop key c
  | .cond _ x y => match findLoop key x with | some c => some c | none => findLoop key y
  | .scope c => findLoop key c
  | _ => none

/-- the body of a function's loop, by the number of its first region -/
def bodyAt (P : Program) (f key : Nat) : Code :=
  match P.funcs[f]? with
  | some fn => match fn.body with
    | some c => match findLoop key c with | some c => c | none => .skip
    | none => .skip
  | none => .skip

def normB : Body → Body
  | .cells cs => .cells (normL cs)
  | .ints k l => .ints k l
  | .rows ks l => .rows ks l
  | .log l => .log l
  | .lists q k l => .lists q k l
  | .grow ks l => .grow ks l
def mkLoopN (G : LoopF) : LoopF := fun vals B => G (normL vals) (B.map normB)
end

/-! ### what is known of numbers in memory -/
def factsB : Body → Prop
  | .cells cs => factsL cs
  | .ints k l => ∀ n ∈ l, Fits k n
  | .rows ks l => ∀ r ∈ l, r.length = ks.length ∧ ∀ (i : Nat) (k : IntKind) (n : Int), ks[i]? = some k → r[i]? = some n → Fits k n
  | .log l => (∀ r ∈ l, r.length = 2 ∧ ∀ n ∈ r, Fits .i64 n) ∧ Fits .i64 (l.length : Int)
  | .lists _ k l => ∀ r ∈ l, ∀ n ∈ r, Fits k n
  | .grow ks l => ∀ r ∈ l, r.length = ks.length ∧ ∀ (i : Nat) (k : IntKind) (n : Int), ks[i]? = some k → r[i]? = some n → Fits k n

section
variable {w0 : World} {O : Own} {ρ : Rho} {w : World}

theorem factsL_iff : ∀ {cs : List SV}, factsL cs ↔ ∀ c ∈ cs, factsC c
  | [] => by simp [factsL]
  | c :: cs => by simp [factsL, factsL_iff (cs := cs)]

theorem cells_facts {b base : Nat} {cs : List SV} (h : CellsAt w0 O ρ w b base cs) : ∀ c ∈ cs, factsC c := fun c hc => by
  obtain ⟨j, hj⟩ := List.getElem?_of_mem hc
  obtain ⟨v, _, h2, _⟩ := h j c hj
  exact denC_facts c _ h2

theorem rows_facts {ks : List IntKind} {l : List (List Int)} (hok : ∀ r ∈ l, r.length = ks.length) (h : ∀ c ∈ cellsOf (.rows ks l), factsC c) : factsB (.rows ks l) := fun r hr => by
  refine ⟨hok r hr, fun i k n hk hn => ?_⟩
  have : SV.int k n ∈ cellsOf (.rows ks l) := by
    simp only [cellsOf, List.mem_flatten, List.mem_map]
    refine ⟨_, ⟨r, hr, rfl⟩, List.mem_of_getElem? (i := i) ?_⟩
    rw [List.getElem?_zipWith, hk, hn]
  exact h _ this

theorem own_facts {bd : Body} (hl : ∀ l, bd ≠ .log l) {loc : Option (Nat × Nat)} {len cap : Nat} {F : Foot} (h : OwnAt w0 O ρ w bd loc len cap F) : factsB bd := by
  obtain ⟨h1, h2, h3, h4⟩ := h
  cases loc with
  | none =>
    have h0 : ecount bd = 0 := by have := h4.1; omega
    cases bd with
    | cells cs => have : cs = [] := List.eq_nil_of_length_eq_zero h0; subst this; trivial
    | ints k l => have : l = [] := List.eq_nil_of_length_eq_zero h0; subst this; simp [factsB]
    | rows ks l => have : l = [] := List.eq_nil_of_length_eq_zero h0; subst this; simp [factsB]
    | lists q k l => have : l = [] := List.eq_nil_of_length_eq_zero h0; subst this; simp [factsB]
    | grow ks l => have : l = [] := List.eq_nil_of_length_eq_zero h0; subst this; simp [factsB]
    | log l => exact absurd rfl (hl l)
  | some y =>
    have hc := cells_facts h4.2.1
    cases bd with
    | cells cs => exact factsL_iff.2 hc
    | ints k l => exact fun n hn => hc (.int k n) (by simp only [cellsOf, List.mem_map]; exact ⟨n, hn, rfl⟩)
    | rows ks l => exact rows_facts h3 hc
    | grow ks l => exact rows_facts (ks := ks) (l := l) h3 hc
    | lists q k l => exact fun r hr => hc (.rob q k r) (by simp only [cellsOf, List.mem_map]; exact ⟨r, hr, rfl⟩)
    | log l => exact absurd rfl (hl l)

theorem holds_facts {bd : Body} {hd : Hd} {F : Foot} (h : Holds w0 O ρ w bd hd F) : factsB bd := by
  cases bd with
  | log l =>
    cases hd with
    | sl a b c => exact h.elim
    | «at» b base =>
      obtain ⟨loc, len, cap, F1, _, _, _, _, h5, h6, _⟩ := h
      have := own_facts (by intro l; simp) h6
      refine ⟨fun r hr => ?_, h5⟩
      obtain ⟨q1, q2⟩ := this r hr
      refine ⟨q1, fun n hn => ?_⟩
      obtain ⟨j, hj⟩ := List.getElem?_of_mem hn
      have hjl : j < 2 := by have := (List.getElem?_eq_some_iff.1 hj).1; simp at q1; omega
      match j, hjl, hj with
      | 0, _, hj => exact q2 0 .i64 n rfl hj
      | 1, _, hj => exact q2 1 .i64 n rfl hj
  | cells cs =>
    cases hd with
    | «at» b base => exact factsL_iff.2 (cells_facts h.2.2)
    | sl a b c => exact h.elim
  | ints k l =>
    cases hd with
    | «at» b base => exact fun n hn => cells_facts h.2.2 (.int k n) (by simp only [cellsOf, List.mem_map]; exact ⟨n, hn, rfl⟩)
    | sl a b c => exact own_facts (by intro l; simp) h
  | lists q k l =>
    cases hd with
    | «at» b base => exact fun r hr => cells_facts h.2.2 (.rob q k r) (by simp only [cellsOf, List.mem_map]; exact ⟨r, hr, rfl⟩)
    | sl a b c => exact own_facts (by intro l; simp) h
  | rows ks l =>
    cases hd with
    | «at» b base => exact rows_facts h.1 (cells_facts h.2.2)
    | sl a b c => exact own_facts (by intro l; simp) h
  | grow ks l =>
    cases hd with
    | «at» b base => exact h.elim
    | sl a b c =>
      obtain ⟨_, _, _, h, _⟩ := h
      exact own_facts (by intro l; simp) h

theorem relH_facts {B : List Body} {Φ : Nat → Foot} (x : RelH w0 O ρ (BH B) w Φ) : ∀ b ∈ B, factsB b := fun b hb => by
  obtain ⟨j, hj⟩ := List.getElem?_of_mem hb
  obtain ⟨hd, _, h⟩ := x.holds j b hj
  exact holds_facts h

theorem denV_facts {c : SV} {v : Value} (h : DenV w0 O ρ c v) : factsC c := by
  rcases h with rfl | ⟨_, h⟩
  · trivial
  · exact denC_facts c _ h
end

theorem FnOk.factsB {g : Ctx} {f : FuncId} {args : List SV} {B : List Body} {out : OpOut} (h : (∀ b ∈ B, Go.Vx.factsB b) → FnOk g f args B out) : FnOk g f args B out :=
  fun w0 O hG ρ Φ vs w d x hr => h (relH_facts x) w0 O hG ρ Φ vs w d x hr

section
variable {P : Program} {w0 : World} {O : Own} {nT m : Nat} {c : Code} {e : Ex} {S S' : List (Nat × SV)} {B B' : List Body}

theorem SimC.facts (hk : (S.map (·.1)).Nodup) (hb : ∀ y ∈ S, y.1 < 65535) (h : (∀ y ∈ S, factsC y.2) → (∀ b ∈ B, factsB b) → SimC P w0 O nT c S B e S' B' m) : SimC P w0 O nT c S B e S' B' m := by
  intro ρ Φ a w r hr
  refine h (fun y hy => ?_) (relH_facts r.heap) ρ Φ a w r hr
  have hget : ∀ {l : List (Nat × SV)}, (l.map (·.1)).Nodup → (∀ y ∈ l, y.1 < 65535) → y ∈ l → tget (mkT l) y.1 = y.2 := by
    intro l
    induction l with
    | nil => intro _ _ h; simp at h
    | cons z l ih =>
      intro hn hl hy
      have e : tget (mkT (z :: l)) y.1 = if y.1 = z.1 then z.2 else tget (mkT l) y.1 := Tr.get_set _ _ _ _ _ (hl z (by simp))
      rw [e]
      simp only [List.map_cons, List.nodup_cons] at hn
      rcases List.mem_cons.1 hy with rfl | h
      · rw [if_pos rfl]
      · have : y.1 ≠ z.1 := fun e => hn.1 (e ▸ List.mem_map.2 ⟨y, h, rfl⟩)
        rw [if_neg this]
        exact ih hn.2 (fun y hy => hl y (by simp [hy])) h
  have := r.tmps y.1
  rw [hget hk hb hy] at this
  exact denV_facts this

/-- slots that say less -/
theorem SimC.pre {S0 : List (Nat × SV)} (h : SimC P w0 O nT c S B e S' B' m) (hi : ∀ t, DenImp (tget (mkT S0) t) (tget (mkT S) t)) : SimC P w0 O nT c S0 B e S' B' m :=
  fun ρ Φ a w r hr => h ρ Φ a w ⟨r.size, r.defers, fun t => hi t _ _ _ _ (r.tmps t), r.heap⟩ hr

theorem norm_imp (c : SV) : DenImp c (normC c) := fun _ _ _ _ h => denV_norm h

theorem zip_norm : ∀ (keep : List Nat) (vals : List SV) (t : Nat), (∀ k ∈ keep, k < 65535) → DenImp (tget (mkT (keep.zip vals)) t) (tget (mkT (keep.zip (normL vals))) t)
  | [], vals, t, _ => by simpa [mkT] using DenImp.refl _
  | k :: keep, [], t, _ => by simpa [mkT, normL] using DenImp.refl _
  | k :: keep, v :: vals, t, h => by
    have e1 : tget (mkT ((k :: keep).zip (v :: vals))) t = if t = k then v else tget (mkT (keep.zip vals)) t := Tr.get_set _ _ _ _ _ (h k (by simp))
    have e2 : tget (mkT ((k :: keep).zip (normL (v :: vals)))) t = if t = k then normC v else tget (mkT (keep.zip (normL vals))) t := by
      simp only [normL]; exact Tr.get_set _ _ _ _ _ (h k (by simp))
    rw [e1, e2]
    split
    · exact norm_imp v
    · exact zip_norm keep vals t fun y hy => h y (by simp [hy])

theorem normL_map (cs : List SV) : normL cs = cs.map normC := by
  induction cs with
  | nil => rfl
  | cons c cs ih => simp [normL, ih]

theorem cells_norm {ρ : Rho} {w : World} {b base : Nat} {cs : List SV} (x : CellsAt w0 O ρ w b base cs) : CellsAt w0 O ρ w b base (normL cs) := by
  intro j c hc
  rw [normL_map, List.getElem?_map] at hc
  cases hj : cs[j]? with
  | none => simp [hj] at hc
  | some c0 =>
    simp [hj] at hc; subst hc
    obtain ⟨v, g1, g2, g3⟩ := x j c0 hj
    exact ⟨v, g1, denC_norm c0 _ g2, g3⟩

theorem holds_norm {ρ : Rho} {w : World} {bd : Body} {hd : Hd} {F : Foot} (x : Holds w0 O ρ w bd hd F) : Holds w0 O ρ w (normB bd) hd F := by
  cases bd with
  | cells cs =>
    have hl : (normL cs).length = cs.length := by rw [normL_map]; simp
    cases hd with
    | «at» b base =>
      obtain ⟨q1, q2, q3⟩ := x
      exact ⟨trivial, by show Rng F b base (normL cs).length; rw [hl]; exact q2, cells_norm q3⟩
    | sl loc len cap => exact x.elim
  | ints k l => exact x
  | rows ks l => exact x
  | log l => exact x
  | lists q k l => exact x
  | grow ks l => exact x

theorem relH_norm {ρ : Rho} {w : World} {Φ : Nat → Foot} (x : RelH w0 O ρ (BH B) w Φ) : RelH w0 O ρ (BH (B.map normB)) w Φ := by
  have hn : ∀ id, BH (B.map normB) id ≠ none → BH B id ≠ none := fun id h e => h (by unfold BH at e ⊢; rw [List.getElem?_map, e]; rfl)
  refine ⟨x.frame, fun id bd h => ?_, fun id id' b o hne h1 h2 => x.disj id id' b o hne (hn _ h1) (hn _ h2), fun id b o h1 => x.mine id b o (hn _ h1)⟩
  unfold BH at h
  rw [List.getElem?_map] at h
  cases hb : B[id]? with
  | none => simp [hb] at h
  | some b0 =>
    simp [hb] at h; subst h
    obtain ⟨hd, q1, q2⟩ := x.holds id b0 hb
    exact ⟨hd, q1, holds_norm q2⟩

/-- chunks that say less -/
theorem SimC.preB (h : SimC P w0 O nT c S (B.map normB) e S' B' m) : SimC P w0 O nT c S B e S' B' m :=
  fun ρ Φ a w r hr => h ρ Φ a w ⟨r.size, r.defers, r.tmps, relH_norm r.heap⟩ (by simpa using hr)

theorem LoopGood.mkN {g : Ctx} {keep : List Nat} {G : LoopF} (hk : ∀ k ∈ keep, k < 65535)
    (h : ∀ vals B S' B' C, G vals B = some (S', B', C) → AllC C → vals.length = keep.length → ∀ w0 O, GlobOk g w0 O → SimC g.P w0 O nT c (keep.zip vals) B e S' B' m) : LoopGood g nT c keep m e (mkLoopN G) := by
  intro vals B S' B' C hG hC hl w0 O hgl
  have hl2 : (normL vals).length = keep.length := by
    rw [← hl]
    clear hG hl
    induction vals with
    | nil => rfl
    | cons v vals ih => simp [normL, ih]
  exact ((h (normL vals) (B.map normB) S' B' C hG hC hl2 w0 O hgl).pre fun t => zip_norm keep vals t hk).preB

/-- N rounds, then out -/
theorem SimC.iter {g : Ctx} {S : Nat → List (Nat × SV)} {B : Nat → List Body} {N : Nat} (hround : ∀ i, i < N → SimC g.P w0 O nT c (S i) (B i) .normal (S (i + 1)) (B (i + 1)) m) (hexit : SimC g.P w0 O nT c (S N) (B N) e S' B' m) (he : e ≠ .normal) :
    ∀ i, i ≤ N → SimC g.P w0 O nT (.loop c) (S i) (B i) e S' B' m := by
  have : ∀ n i, i + n = N → SimC g.P w0 O nT (.loop c) (S i) (B i) e S' B' m := by
    intro n
    induction n with
    | zero => intro i hi; have : i = N := by omega
              subst this; exact SimC.done hexit he
    | succ n ih => intro i hi; exact SimC.next (Nat.le_refl _) (hround i (by omega)) (ih (i + 1) (by omega))
  intro i hi
  exact this (N - i) i (by omega)

theorem sub_mkT {S S1 : List (Nat × SV)} (h : ∀ y ∈ S1, y.1 < 65535 ∧ tget (mkT S) y.1 = y.2) (t : Nat) : tget (mkT S1) t = tget (mkT S) t ∨ tget (mkT S1) t = .any := by
  rcases tget_mkT S1 t fun y hy => (h y hy).1 with e | ⟨y, h1, h2, h3⟩
  · exact .inr e
  · left; rw [h3, ← (h y h1).2, h2]
end
end Go.Vx

namespace Go.Vx

/-- a chunk that says less -/
inductive BImp : Body → Body → Prop where
  | refl (b : Body) : BImp b b
  | cells {cs ds : List SV} (h : ImpL cs ds) : BImp (.cells cs) (.cells ds)

theorem ImpL.get : ∀ {cs ds : List SV}, ImpL cs ds → cs.length = ds.length ∧ ∀ (j : Nat) (d : SV), ds[j]? = some d → ∃ c, cs[j]? = some c ∧ DenImp c d
  | [], [], _ => by simp
  | c :: cs, d :: ds, h => by
    obtain ⟨g1, g2⟩ := ImpL.get h.2
    refine ⟨by simp [g1], fun j e he => ?_⟩
    cases j with
    | zero => simp at he; subst he; exact ⟨c, by simp, h.1⟩
    | succ j => simp at he; obtain ⟨c', q1, q2⟩ := g2 j e he; exact ⟨c', by simpa using q1, q2⟩
  | [], _ :: _, h => h.elim
  | _ :: _, [], h => h.elim

section
variable {w0 : World} {O : Own} {ρ : Rho} {w : World}

theorem denImp_cell {c d : SV} (h : DenImp c d) {v : Value} (hv : isAggV v = false) (hd : isAggS c = false) (x : DenC w0 O ρ c [v]) : DenC w0 O ρ d [v] := by
  have h1 : DenV w0 O ρ c v := .inr ⟨hd.trans hv.symm, by rw [not_agg_cells hv]; exact x⟩
  rcases h _ _ _ _ h1 with e | ⟨_, e⟩
  · subst e; simp [DenC]
  · rwa [not_agg_cells hv] at e

/-- cells that are no aggregates -/
def flatL (cs : List SV) : Prop := ∀ c ∈ cs, isAggS c = false

theorem cells_imp {b base : Nat} {cs ds : List SV} (h : ImpL cs ds) (hf : flatL cs) (x : CellsAt w0 O ρ w b base cs) : CellsAt w0 O ρ w b base ds := fun j d hd => by
  obtain ⟨c, q1, q2⟩ := h.get.2 j d hd
  obtain ⟨v, g1, g2, g3, g4⟩ := x j c q1
  exact ⟨v, g1, denImp_cell q2 g3 (hf c (List.mem_of_getElem? q1)) g2, g3, g4⟩

theorem holds_imp {b b' : Body} (h : BImp b b') (hf : ∀ cs, b = .cells cs → flatL cs) {hd : Hd} {F : Foot} (x : Holds w0 O ρ w b hd F) : Holds w0 O ρ w b' hd F := by
  cases h with
  | refl => exact x
  | cells h =>
    rename_i cs ds
    have hl := h.get.1
    have hf := hf cs rfl
    cases hd with
    | «at» bb base =>
      obtain ⟨q1, q2, q3⟩ := x
      exact ⟨trivial, by show Rng F bb base ds.length; rw [← hl]; exact q2, cells_imp h hf q3⟩
    | sl loc len cap => exact x.elim

def BImpL : List Body → List Body → Prop
  | [], [] => True
  | b :: bs, c :: cs => (BImp b c ∧ ∀ l, b = .cells l → flatL l) ∧ BImpL bs cs
  | _, _ => False
theorem BImpL.get : ∀ {bs cs : List Body}, BImpL bs cs → bs.length = cs.length ∧ ∀ (j : Nat) (c : Body), cs[j]? = some c → ∃ b, bs[j]? = some b ∧ BImp b c ∧ ∀ l, b = .cells l → flatL l
  | [], [], _ => by simp
  | c :: cs, d :: ds, h => by
    obtain ⟨g1, g2⟩ := BImpL.get h.2
    refine ⟨by simp [g1], fun j e he => ?_⟩
    cases j with
    | zero => simp at he; subst he; exact ⟨c, by simp, h.1⟩
    | succ j => simp at he; obtain ⟨c', q1, q2⟩ := g2 j e he; exact ⟨c', by simpa using q1, q2⟩
  | [], _ :: _, h => h.elim
  | _ :: _, [], h => h.elim

theorem relH_imp {B B' : List Body} {Φ : Nat → Foot} (h : BImpL B B') (x : RelH w0 O ρ (BH B) w Φ) : RelH w0 O ρ (BH B') w Φ := by
  have hn : ∀ id, BH B' id ≠ none → BH B id ≠ none := fun id h' e => by
    unfold BH at e h'
    apply h'
    have := h.get.1
    have e := List.getElem?_eq_none_iff.1 e
    exact List.getElem?_eq_none (by omega)
  refine ⟨x.frame, fun id bd hb => ?_, fun id id' b o hne h1 h2 => x.disj id id' b o hne (hn _ h1) (hn _ h2), fun id b o h1 => x.mine id b o (hn _ h1)⟩
  obtain ⟨b0, q1, q2, q3⟩ := h.get.2 id bd hb
  obtain ⟨hd, g1, g2⟩ := x.holds id b0 q1
  exact ⟨hd, g1, holds_imp q2 q3 g2⟩
end

theorem FnOk.preB {g : Ctx} {f : FuncId} {args : List SV} {B B' : List Body} {out : OpOut} (h : FnOk g f args B' out) (hi : BImpL B B') (he : ∀ j, afterH B out j = afterH B' out j) : FnOk g f args B out := by
  intro w0 O hG ρ Φ vs w d x hr
  have hl := hi.get.1
  refine (h w0 O hG ρ Φ vs w d (relH_imp hi x) (by rw [← hl]; exact hr)).mono fun u w' ⟨ρ', Φ', q1, q2, q3, q4⟩ => ⟨ρ', Φ', q1, q2, by rw [hl]; exact q3, relH_funext (fun j => (he j).symm) q4⟩

theorem SimC.preI {P : Program} {w0 : World} {O : Own} {nT m : Nat} {c : Code} {e : Ex} {S S' : List (Nat × SV)} {B B' B1 : List Body} (h : SimC P w0 O nT c S B1 e S' B' m) (hi : BImpL B B1) : SimC P w0 O nT c S B e S' B' m :=
  fun ρ Φ a w r hr => h ρ Φ a w ⟨r.size, r.defers, r.tmps, relH_imp hi r.heap⟩ (by rw [← hi.get.1]; exact hr)

theorem impL_nums {ks : List IntKind} : ∀ {cs : List SV} {ns : List Int} {i : Nat}, numsAs ks cs = some ns → ∀ {a : Nat → Int}, (∀ j, j < ns.length → a (i + j) = ns.getD j 0) → ImpL cs (svF ks a i) ∧ flatL cs := by
  induction ks with
  | nil =>
    intro cs ns i h a _
    cases cs with
    | nil => exact ⟨trivial, fun _ h => by simp at h⟩
    | cons => simp [numsAs] at h
  | cons k ks ih =>
    intro cs ns i h a ha
    cases cs with
    | nil => simp [numsAs] at h
    | cons c cs =>
      simp only [numsAs] at h
      split at h
      · rename_i l k' n r h1 h2
        split at h
        · rename_i hk
          obtain rfl := kidx_inj hk
          simp only [Option.some.injEq] at h; subst h
          obtain ⟨q1, q2⟩ := ih (i := i + 1) h2 (a := a) fun j hj => by
            have := ha (j + 1) (by simp; omega)
            rw [show i + 1 + j = i + (j + 1) by omega, this]; rfl
          have h0 : a i = n := by have := ha 0 (by simp); simpa using this
          refine ⟨⟨fun w0 O ρ v hv => ?_, q1⟩, fun d hd => ?_⟩
          · obtain ⟨rfl, hf⟩ := denV_num hv h1
            rw [h0]; exact den_int hf
          · rcases List.mem_cons.1 hd with rfl | hd
            · cases d <;> simp [num] at h1 <;> rfl
            · exact q2 d hd
        · simp at h
      · simp at h

/-- chunks of numbers -/
theorem cells_nums {ks : List IntKind} {cs : List SV} {ns : List Int} (h : numsAs ks cs = some ns) : BImp (.cells cs) (.cells (svF ks (atL ns) 0)) ∧ ∀ l, Body.cells cs = .cells l → flatL l := by
  obtain ⟨h1, h2⟩ := impL_nums (i := 0) h (a := atL ns) fun j _ => by rw [Nat.zero_add]; rfl
  exact ⟨.cells h1, fun l e => by injection e with e; subst e; exact h2⟩


theorem slice_reach {H : Type} {P : Program} {ts : List TypeId} {ds : List (DataW H)} (h : (DataW.weightsEach P ts ds).all (· ≤ reachBytes) = true) {j : Nat} {t e : TypeId} {d : DataW H} {k : IntKind} {l : List Int} (ht : ts[j]? = some t) (hd : ds[j]? = some d) (hu : P.underlying t = some (.slice e))
    (hdis : d = .nil ∧ l = [] ∨ ∃ r, d = .slice (Go.ChangeShapes.lits k l) r) : l.length * P.bytesOf e ≤ 140737488351232 := by
  rcases hdis with ⟨_, rfl⟩ | ⟨r, rfl⟩
  · simp
  · have := sized_slice h ht hd hu
    have e1 : (Go.ChangeShapes.lits (H := H) k l).length = l.length := by simp [Go.ChangeShapes.lits]
    rw [e1] at this
    have h2 : l.length * P.bytesOf e ≤ (l.length + r.length) * P.bytesOf e := Nat.mul_le_mul_right _ (by omega)
    have h3 : reachBytes = 140737488351232 := by decide
    omega

end Go.Vx

/- The log of a Recorder: as two cells and rows, and back; externs. -/
namespace Go.Vx
open Go

section
variable {w0 : World} {O : Own} {ρ : Rho} {w : World} {H : Nat → Option Body} {Φ : Nat → Foot}

theorem holds_log {l : List (List Int)} {hd : Hd} {F : Foot} (h : Holds w0 O ρ w (.log l) hd F) : ∃ b base, hd = .at b base ∧ LogAt w0 O ρ w l b base F := by
  cases hd with
  | «at» b base => exact ⟨b, base, rfl, h⟩
  | sl loc len cap => exact h.elim

/-- a log is two cells and its rows -/
theorem RelH.unlog (x : RelH w0 O ρ H w Φ) {id k : Nat} {l : List (List Int)} (hb : H id = some (.log l)) (hk : ρ k = none) :
    ∃ loc len cap Φ', RelH w0 O (upR ρ k (.sl loc len cap)) (upH (upH H id (some (.cells [.int .i64 l.length, .own k]))) k (some (.rows [.i64, .i64] l))) w Φ' := by
  obtain ⟨hd, hr, hh⟩ := x.holds id _ hb
  obtain ⟨b, base, rfl, loc, len, cap, F1, h1, h2, h3, h4, h5, h6, h7, h8⟩ := holds_log hh
  have hne : id ≠ k := by rintro rfl; rw [hk] at hr; simp at hr
  have hHk : H k = none := by
    cases e : H k with
    | none => rfl
    | some bd => obtain ⟨hd, q, _⟩ := x.holds k bd e; rw [hk] at q; simp at q
  have x0 := (x.drop id).mono (Ext.up hk (.sl loc len cap))
  have hsub : ∀ b' o, (b' = b ∧ base ≤ o ∧ o < base + 2) ∨ F1 b' o → Φ id b' o := fun b' o h => (h8 b' o).2 (h.imp (fun ⟨e, h1, h2⟩ => ⟨e, by omega⟩) fun h => h)
  have hin : H id ≠ none := by rw [hb]; simp
  have x1 := x0.put (id := id) (bd := .cells [.int .i64 l.length, .own k]) (hd := .at b base) (F := fun b' o => b' = b ∧ base ≤ o ∧ o < base + 2) (by simp [upR, hne, hr])
    ⟨trivial, fun _ _ => Iff.rfl, fun j c hc => by
      match j with
      | 0 =>
        simp [cellsOf] at hc; subst hc
        exact ⟨_, h1, by simp only [DenC]; exact ⟨by simp, h5⟩, rfl, h2⟩
      | 1 =>
        simp [cellsOf] at hc; subst hc
        exact ⟨_, h3, by simp only [DenC]; exact ⟨loc, len, cap, by simp [upR], rfl⟩, rfl, h4⟩
      | j + 2 => simp [cellsOf] at hc⟩
    (fun i b' o hi hn q1 q2 => x.disj i id b' o hi (by unfold upH at hn; simpa [hi] using hn) hin q1 (hsub b' o (.inl q2)))
    (fun b' o q => x.mine id b' o hin (hsub b' o (.inl q)))
  rw [upH_upH] at x1
  refine ⟨loc, len, cap, _, x1.put (id := k) (bd := .rows [.i64, .i64] l) (hd := .sl loc len cap) (F := F1) (by simp [upR]) (h6.mono (Ext.up hk _)) (fun i b' o hi hn q1 q2 => ?_) (fun b' o q => x.mine id b' o hin (hsub b' o (.inr q)))⟩
  by_cases e : i = id
  · subst e
    simp only [upF, if_true] at q1
    obtain ⟨rfl, q3, q4⟩ := q1
    have := h7 o q2; omega
  · simp only [upF, if_neg e] at q1
    exact x.disj i id b' o e (by unfold upH at hn; simpa [e] using hn) hin q1 (hsub b' o (.inr q2))

/-- and back -/
theorem RelH.tolog (x : RelH w0 O ρ H w Φ) {id k : Nat} {l : List (List Int)} (hb : H id = some (.cells [.int .i64 l.length, .own k])) (hk : H k = some (.rows [.i64, .i64] l)) {b base : Nat} (hr : ρ id = some (.at b base)) :
    RelH w0 O ρ (upH (upH H k none) id (some (.log l))) w (upF Φ id fun b' o => Φ id b' o ∨ Φ k b' o) := by
  have hne : id ≠ k := by rintro rfl; rw [hb] at hk; simp at hk
  obtain ⟨hd, hr', hh⟩ := x.holds id _ hb
  rw [hr] at hr'; cases hr'
  obtain ⟨_, hF, hc⟩ := hh
  obtain ⟨hdk, hrk, hhk⟩ := x.holds k _ hk
  have hin : H id ≠ none := by rw [hb]; simp
  have hkn : H k ≠ none := by rw [hk]; simp
  obtain ⟨v0, a1, a2, _, a4⟩ := hc 0 (.int .i64 l.length) rfl
  obtain ⟨v1, b1, b2, _, b4⟩ := hc 1 (.own k) rfl
  simp only [DenC] at a2 b2
  obtain ⟨e0, f0⟩ := a2
  obtain ⟨loc, len, cap, e1, e2⟩ := b2
  simp at e0 e2; subst e0; subst e2
  rw [hrk] at e1; simp only [Option.some.injEq] at e1; subst e1
  refine (x.drop k).put (hd := .at b base) hr ⟨loc, len, cap, Φ k, a1, a4, b1, b4, f0, hhk, fun o q => ?_, fun b' o => ?_⟩ (fun i b' o hi hn q1 q2 => ?_) (fun b' o q => ?_)
  · have hF' : ∀ j, j < 2 → Φ id b (base + j) := fun j hj => (hF b (base + j)).2 ⟨rfl, by omega, by simp [cellsOf]; omega⟩
    constructor
    · rintro rfl; exact x.disj id k b _ hne hin hkn (hF' 0 (by omega)) q
    · rintro rfl; exact x.disj id k b _ hne hin hkn (hF' 1 (by omega)) q
  · have := hF b' o
    simp only [cellsOf, List.length_cons, List.length_nil] at this
    constructor
    · rintro (q | q)
      · have := this.1 q; left; exact ⟨this.1, by omega⟩
      · exact .inr q
    · rintro (⟨rfl, q⟩ | q)
      · left; exact this.2 ⟨rfl, by omega⟩
      · exact .inr q
  · have hik : i ≠ k := by rintro rfl; simp [upH] at hn
    have hin' : H i ≠ none := by unfold upH at hn; simpa [hik] using hn
    rcases q2 with q2 | q2
    · exact x.disj i id b' o hi hin' hin q1 q2
    · exact x.disj i k b' o hik hin' hkn q1 q2
  · rcases q with q | q
    · exact x.mine id b' o hin q
    · exact x.mine k b' o hkn q

/-- the log of a new Recorder -/
theorem RelH.tolog0 (x : RelH w0 O ρ H w Φ) {id : Nat} (hb : H id = some (.cells [.lit .i64 0, .raw (.slice none 0 0)])) {b base : Nat} (hr : ρ id = some (.at b base)) :
    RelH w0 O ρ (upH H id (some (.log []))) w Φ := by
  obtain ⟨hd, hr', hh⟩ := x.holds id _ hb
  rw [hr] at hr'; cases hr'
  obtain ⟨_, hF, hc⟩ := hh
  have hin : H id ≠ none := by rw [hb]; simp
  obtain ⟨v0, a1, a2, _, a4⟩ := hc 0 (.lit .i64 0) rfl
  obtain ⟨v1, b1, b2, _, b4⟩ := hc 1 (.raw (.slice none 0 0)) rfl
  simp only [DenC] at a2 b2
  obtain ⟨e0, f0⟩ := a2
  obtain ⟨e1, _⟩ := b2
  simp at e0 e1; subst e0; subst e1
  have := x.put (id := id) (bd := .log []) (hd := .at b base) (F := Φ id) hr ⟨none, 0, 0, fun _ _ => False, a1, a4, b1, b4, f0, ⟨rfl, Nat.le_refl _, by simp [bodyOk], rfl, fun _ _ h => h⟩, fun o q => q.elim, fun b' o => by
    have := hF b' o
    simp only [cellsOf, List.length_cons, List.length_nil] at this
    constructor
    · intro q; have := this.1 q; left; exact ⟨this.1, by omega⟩
    · rintro (⟨rfl, q⟩ | q)
      · exact this.2 ⟨rfl, by omega⟩
      · exact q.elim⟩ (fun i b' o hi hn q1 q2 => x.disj i id b' o hi hn hin q1 q2) (fun b' o q => x.mine id b' o hin q)
  rwa [upF_self] at this
end

/-- only the first chunk is told of -/
theorem inR_one (ρ : Rho) : ∀ id h j, ρ id = some h → (if id = 0 then some 0 else none) = some j → inR ρ [0] j = some h := fun id h j h1 h2 => by
  split at h2
  · subst_vars; simp at h2; subst h2; simp [inR, h1]
  · simp at h2

def only0 : Nat → Option Nat := fun id => if id = 0 then some 0 else none

/-- a function of one log, told of with the log as cells and rows -/
theorem FnOk.log {g : Ctx} {f : FuncId} {args : List SV} {l l' : List (List Int)} {v : SV}
    (h : FnOk g f args [.cells [.int .i64 l.length, .own 1], .rows [.i64, .i64] l] { val := v, upd := [(0, some (.cells [.int .i64 l'.length, .own 2])), (1, none)], new := [.rows [.i64, .i64] l'] })
    (hv : mapC only0 v = v) : FnOk g f args [.log l] { val := v, upd := [(0, some (.log l'))] } := by
  intro w0 O hG ρ Φ vs w d x hr
  have h1 : ρ 1 = none := hr 1 (by simp)
  obtain ⟨loc, len, cap, Φ1, x1⟩ := x.unlog (id := 0) (k := 1) (l := l) rfl h1
  obtain ⟨hd, hr0, hh⟩ := x.holds 0 (.log l) rfl
  obtain ⟨b, base, rfl, _⟩ := holds_log hh
  have x1 := relH_funext (H' := BH [.cells [.int .i64 l.length, .own 1], .rows [.i64, .i64] l]) (fun j => by
    match j with
    | 0 => rfl
    | 1 => rfl
    | j + 2 => simp [upH, BH]) x1
  have hext : Ext ρ (upR ρ 1 (.sl loc len cap)) := Ext.up h1 _
  refine (h w0 O hG _ Φ1 vs w (DenT.mono hext _ _ d) x1 (fun j hj => by
    simp at hj; simp [upR, show j ≠ 1 by omega]; exact hr j (by simp; omega))).mono fun u w' ⟨ρ2, Φ2, q1, q2, q3, q4⟩ => ?_
  have hr2 : ρ2 0 = some (.at b base) := q2 0 _ (hext 0 _ hr0)
  have x2 := q4.tolog (id := 0) (k := 2) (l := l') rfl rfl hr2
  refine ⟨inR ρ2 [0], _, ?_, fun j hd hj => ?_, fun j hj => ?_, relH_funext (fun j => ?_) (relH_ren x2 (ids := [0]) (by simp))⟩
  · rw [← hv]; exact denV_map (inR_one ρ2) q1
  · by_cases e : j = 0
    · subst e; simp [inR, q2 0 _ (hext 0 _ hj)]
    · rw [hr j (by simp; omega)] at hj; simp at hj
  · simp at hj
    simp [inR, List.getElem?_eq_none (show ([0] : List Nat).length ≤ j by simpa using hj)]
  · match j with
    | 0 => simp [renH, upH, afterH, newH, newAll, updAll, mapB]
    | j + 1 => simp [renH, upH, afterH, newH, newAll, updAll, BH]

/-- one that leaves the log as it is -/
theorem FnOk.logRead {g : Ctx} {f : FuncId} {args : List SV} {l : List (List Int)} {v : SV}
    (h : FnOk g f args [.cells [.int .i64 l.length, .own 1], .rows [.i64, .i64] l] { val := v })
    (hv : mapC only0 v = v) : FnOk g f args [.log l] { val := v } := by
  intro w0 O hG ρ Φ vs w d x hr
  have h1 : ρ 1 = none := hr 1 (by simp)
  obtain ⟨loc, len, cap, Φ1, x1⟩ := x.unlog (id := 0) (k := 1) (l := l) rfl h1
  obtain ⟨hd, hr0, hh⟩ := x.holds 0 (.log l) rfl
  obtain ⟨b, base, rfl, _⟩ := holds_log hh
  have x1 := relH_funext (H' := BH [.cells [.int .i64 l.length, .own 1], .rows [.i64, .i64] l]) (fun j => by
    match j with
    | 0 => rfl
    | 1 => rfl
    | j + 2 => simp [upH, BH]) x1
  have hext : Ext ρ (upR ρ 1 (.sl loc len cap)) := Ext.up h1 _
  refine (h w0 O hG _ Φ1 vs w (DenT.mono hext _ _ d) x1 (fun j hj => by
    simp at hj; simp [upR, show j ≠ 1 by omega]; exact hr j (by simp; omega))).mono fun u w' ⟨ρ2, Φ2, q1, q2, q3, q4⟩ => ?_
  have hr2 : ρ2 0 = some (.at b base) := q2 0 _ (hext 0 _ hr0)
  have x2 := q4.tolog (id := 0) (k := 1) (l := l) rfl rfl hr2
  refine ⟨inR ρ2 [0], _, ?_, fun j hd hj => ?_, fun j hj => ?_, relH_funext (fun j => ?_) (relH_ren x2 (ids := [0]) (by simp))⟩
  · rw [← hv]; exact denV_map (inR_one ρ2) q1
  · by_cases e : j = 0
    · subst e; simp [inR, q2 0 _ (hext 0 _ hj)]
    · rw [hr j (by simp; omega)] at hj; simp at hj
  · simp at hj
    simp [inR, List.getElem?_eq_none (show ([0] : List Nat).length ≤ j by simpa using hj)]
  · match j with
    | 0 => simp [renH, upH, afterH, newH, newAll, updAll, mapB, BH]
    | j + 1 => simp [renH, upH, afterH, newH, newAll, updAll, BH]

/-! ### externs -/
def addF : SumF := fun args B => match args, B with
  | [.ptr 0 off, .int .i64 y], .cells cs :: _ => match (cs[off]?).bind num with
    | some (_, .i64, x) => some { val := .int .i64 (x + y), upd := [(0, some (.cells (cs.set off (.int .i64 (x + y)))))], C := [Fits .i64 (x + y)] }
    | _ => none
  | _, _ => none
def loadF : SumF := fun args B => match args, B with
  | [.ptr 0 off], .cells cs :: _ => match (cs[off]?).bind num with
    | some (_, .i64, x) => some { val := .int .i64 x }
    | _ => none
  | _, _ => none

section
variable {g : Ctx} {f : FuncId} {fn : Func}

theorem add_ok (hf : g.P.funcs[f]? = some fn) (hname : (fn.name == "runtime.NumGoroutine") = false) (hb : fn.body.isNone = true) (hn : Extern.findNext fn = none)
    (he : Extern.find fn = some (Extern.Atomic.update (Op.intArith .add) .i64 true)) (args : List SV) (B : List Body) (out : OpOut) (h : addF args B = some out) (hC : AllC out.C) : FnOk g f args B out := by
  unfold addF at h
  split at h
  · rename_i off y cs rest
    split at h
    · rename_i lb x hx
      simp only [Option.some.injEq] at h; subst h
      obtain ⟨c, hc, hcn⟩ := Option.bind_eq_some_iff.1 hx
      have hfit : Fits .i64 (x + y) := hC _ (by simp)
      intro w0 O hG ρ Φ vs w d r hr
      simp only [DenT] at d
      obtain ⟨v1, r1, rfl, d1, v2, r2, rfl, d2, rfl⟩ := d
      have d1 := denV_cell (c := .ptr 0 off) d1 (by simp) rfl
      simp only [DenC] at d1
      obtain ⟨⟨hd, b, base, p1, p2, p3⟩, _⟩ := d1
      simp at p3; subst p3
      obtain ⟨rfl, hy⟩ := denV_num (w0 := w0) (O := O) (ρ := ρ) (c := .int .i64 y) d2 rfl
      obtain ⟨hd', hr', hh⟩ := r.holds 0 (.cells cs) rfl
      rw [p1] at hr'; simp only [Option.some.injEq] at hr'; subst hr'
      obtain ⟨_, hcells, _⟩ := hh.cells (by simp) p2
      obtain ⟨v, g1, g2, _, g4⟩ := hcells off c hc
      rw [num_den hcn] at g2
      obtain ⟨g2, _⟩ := g2
      simp at g2; subst g2
      have hlt : off < cs.length := (List.getElem?_eq_some_iff.1 hc).1
      have hw : Writes w0 O ρ (.cells cs) (.cells (cs.set off (.int .i64 (x + y)))) off (.int .i64 (x + y)) := by
        have := writeOne_spec (w0 := w0) (O := O) (ρ := ρ) (bd := .cells cs) (bd' := .cells (cs.set off (.int .i64 (x + y)))) (p := .at off) (t := 0) (v := .int .i64 (x + y)) (C := []) (u := .int .i64 (x + y)) (by simp [writeOne, hc]) (by simp [AllC]) (by simp only [DenC]; exact ⟨by simp, hfit⟩) (by simp)
        simpa [Loc.off] using this
      refine .inr ⟨_, _, run_call_add hf hname hb hn .i64 he g1 g4 (s := x + y) (by simp [Op.intArith, wrap_fits hfit]), ρ, Φ, den_int hfit, fun _ _ h => h, fun j hj => hr j (by simpa using hj), relH_funext (fun j => ?_) (r.write (id := 0) rfl p1 p2 hw rfl)⟩
      simp [afterH, newH, newAll, updAll]
    · simp at h
  · simp at h

theorem load_ok (hf : g.P.funcs[f]? = some fn) (hname : (fn.name == "runtime.NumGoroutine") = false) (hb : fn.body.isNone = true) (hn : Extern.findNext fn = none)
    (he : Extern.find fn = some (Extern.Atomic.loadT (.int .i64))) (args : List SV) (B : List Body) (out : OpOut) (h : loadF args B = some out) (_ : AllC out.C) : FnOk g f args B out := by
  unfold loadF at h
  split at h
  · rename_i off cs rest
    split at h
    · rename_i lb x hx
      simp only [Option.some.injEq] at h; subst h
      obtain ⟨c, hc, hcn⟩ := Option.bind_eq_some_iff.1 hx
      intro w0 O hG ρ Φ vs w d r hr
      simp only [DenT] at d
      obtain ⟨v1, r1, rfl, d1, rfl⟩ := d
      have d1 := denV_cell (c := .ptr 0 off) d1 (by simp) rfl
      simp only [DenC] at d1
      obtain ⟨⟨hd, b, base, p1, p2, p3⟩, _⟩ := d1
      simp at p3; subst p3
      obtain ⟨hd', hr', hh⟩ := r.holds 0 (.cells cs) rfl
      rw [p1] at hr'; simp only [Option.some.injEq] at hr'; subst hr'
      obtain ⟨_, hcells, _⟩ := hh.cells (by simp) p2
      obtain ⟨v, g1, g2, _, g4⟩ := hcells off c hc
      rw [num_den hcn] at g2
      obtain ⟨g2, hfit⟩ := g2
      simp at g2; subst g2
      exact .inr ⟨_, _, run_call_load hf hname hb hn .i64 he g1, ρ, Φ, den_int hfit, fun _ _ h => h, fun j hj => hr j (by simpa using hj), relH_funext (fun j => by simp [afterH, newH, newAll, updAll]) r⟩
    · simp at h
  · simp at h

/-- math/bits.Add64 -/
def adcS (x y c : Int) : Int := .ofNat ((x.toNat + y.toNat + c.toNat) % 18446744073709551616)
def adcC (x y c : Int) : Int := .ofNat ((x.toNat + y.toNat + c.toNat) / 18446744073709551616)
def add64F : SumF := fun args B => match args, B with
  | [.int .u64 x, .int .u64 y, .int .u64 c], [] => some { val := .tuple [.int .u64 (adcS x y c), .int .u64 (adcC x y c)], C := [c.toNat ≤ 1] }
  | _, _ => none

open Go.Extern.MathBitsCarry
theorem run_asInt (P : Program) (k : IntKind) (n : Int) (w : World) : (asInt (.int k n)).run P w = .ok n w := by simp [asInt, asIntOf]
theorem three_eq (x y c : Value) : three "Add64" #[x, y, c] = (do
    let c := (← asInt c).toNat
    if c > 1 then unsupported (.noEntry ("extern/math/bits." ++ "Add64" ++ ": a carry that is neither 0 nor 1"))
    pure ((← asInt x).toNat, (← asInt y).toNat, c)) := rfl
theorem run_three (P : Program) (w : World) (k1 k2 k3 : IntKind) (x y c : Int) (h : ¬ (c.toNat > 1)) : (three "Add64" #[.int k1 x, .int k2 y, .int k3 c]).run P w = .ok (x.toNat, y.toNat, c.toNat) w := by
  rw [three_eq]
  simp only [Sem.run_bind, run_asInt, Result.andThen_ok, if_neg h, Sem.run_pure]
theorem add64_lt {x y c : Nat} (h1 : x < 18446744073709551616) (h2 : y < 18446744073709551616) (h3 : c ≤ 1) : (x + y + c) / 18446744073709551616 < 18446744073709551616 := by omega
theorem add64_ok (hf : g.P.funcs[f]? = some fn) (hname : (fn.name == "runtime.NumGoroutine") = false) (hb : fn.body.isNone = true) (hn : Extern.findNext fn = none)
    (he : Extern.find fn = some (fun args => do let (x, y, c) ← three "Add64" args; pure (pair ((x + y + c) % m64) ((x + y + c) / m64)))) (args : List SV) (B : List Body) (out : OpOut) (h : add64F args B = some out) (hC : AllC out.C) : FnOk g f args B out := by
  unfold add64F at h
  split at h
  · rename_i x y c
    simp only [Option.some.injEq] at h; subst h
    have hc : c.toNat ≤ 1 := hC _ (.head _)
    intro w0 O hG ρ Φ vs w d r hr
    simp only [DenT] at d
    obtain ⟨v1, r1, rfl, d1, v2, r2, rfl, d2, v3, r3, rfl, d3, rfl⟩ := d
    obtain ⟨rfl, h1⟩ := denV_num (w0 := w0) (O := O) (ρ := ρ) (c := .int .u64 x) d1 rfl
    obtain ⟨rfl, h2⟩ := denV_num (w0 := w0) (O := O) (ρ := ρ) (c := .int .u64 y) d2 rfl
    obtain ⟨rfl, h3⟩ := denV_num (w0 := w0) (O := O) (ρ := ρ) (c := .int .u64 c) d3 rfl
    have h1' : x.toNat < 18446744073709551616 := by obtain ⟨m, rfl, h⟩ := fits_u64 h1; exact h
    have h2' : y.toNat < 18446744073709551616 := by obtain ⟨m, rfl, h⟩ := fits_u64 h2; exact h
    have hrun : (callFunc f #[.int .u64 x, .int .u64 y, .int .u64 c]).run g.P w = .ok (.value (pair ((x.toNat + y.toNat + c.toNat) % m64) ((x.toNat + y.toNat + c.toNat) / m64))) w := by
      rw [run_callFunc_extern hf hname hb hn he]
      simp only [Sem.run_bind, run_three g.P w .u64 .u64 .u64 x y c (Nat.not_lt.2 hc), Result.andThen_ok, Sem.run_pure]
    refine .inr ⟨_, _, hrun, ρ, Φ, ?_, fun _ _ h => h, fun j hj => hr j hj, relH_funext (fun j => rfl) r⟩
    right
    refine ⟨rfl, ?_⟩
    simp only [DenC, pair, Value.cells]
    refine ⟨_, rfl, ?_⟩
    simp only [DenT]
    exact ⟨_, _, rfl, den_int (fits_ofNat (k := .u64) rfl (Nat.mod_lt _ (by decide))), _, _, rfl, den_int (fits_ofNat (k := .u64) rfl (add64_lt h1' h2' hc)), rfl⟩
  · simp at h
end
end Go.Vx

/- The Recorder's functions. -/
namespace Go.Vx
open Go

theorem FnOk.logNew {g : Ctx} {f : FuncId} {args : List SV} (h : FnOk g f args [] { val := .ptr 0 0, new := [.cells [.lit .i64 0, .raw (.slice none 0 0)]] }) : FnOk g f args [] { val := .ptr 0 0, new := [.log []] } := by
  intro w0 O hG ρ Φ vs w d x hr
  refine (h w0 O hG ρ Φ vs w d x hr).mono fun u w' ⟨ρ2, Φ2, q1, q2, q3, q4⟩ => ?_
  have q1 := denV_cell (c := .ptr 0 0) q1 (by simp) rfl
  simp only [DenC] at q1
  obtain ⟨⟨hd, b, base, p1, p2, p3⟩, _⟩ := q1
  obtain ⟨hd', hr', hh⟩ := q4.holds 0 (.cells [.lit .i64 0, .raw (.slice none 0 0)]) rfl
  rw [p1] at hr'; simp only [Option.some.injEq] at hr'; subst hr'
  obtain ⟨_, hc, hF⟩ := hh.cells (by simp) p2
  obtain ⟨v0, a1, a2, _, a4⟩ := hc 0 (.lit .i64 0) rfl
  obtain ⟨v1, b1, b2, _, b4⟩ := hc 1 (.raw (.slice none 0 0)) rfl
  simp only [DenC] at a2 b2
  obtain ⟨e0, f0⟩ := a2
  obtain ⟨e1, _⟩ := b2
  simp at e0 e1 p3; subst e0; subst e1; subst p3
  have hF0 : ∀ b' o, (b' = b ∧ (o = base ∨ o = base + 1)) → Φ2 0 b' o := by
    rintro b' o ⟨rfl, rfl | rfl⟩
    · exact hF (by intro ks l; simp) 0 (by simp [cellsOf])
    · exact hF (by intro ks l; simp) 1 (by simp [cellsOf])
  have hin : afterH [] { val := .ptr 0 0, new := [.cells [.lit .i64 0, .raw (.slice none 0 0)]] } 0 ≠ none := by simp [afterH, newH, newAll, updAll, upH]
  have hafter : ∀ j, afterH [] { val := .ptr 0 0, new := [.log []] } j = if j = 0 then some (.log []) else none := fun j => by
    match j with
    | 0 => rfl
    | j + 1 => simp [afterH, newH, newAll, updAll, upH, BH]
  refine ⟨fun j => if j = 0 then some (.at b base) else none, fun _ b' o => b' = b ∧ (o = base ∨ o = base + 1), ?_, fun j h hj => ?_, fun j hj => ?_, ⟨q4.frame, fun id bd hid => ?_, fun id id' b' o hne h1 h2 => ?_, fun id b' o h1 h2 => q4.mine 0 b' o hin (hF0 b' o h2)⟩⟩
  · right
    refine ⟨rfl, ?_⟩
    simp only [DenC, Value.cells]
    exact ⟨.at b base, b, base, rfl, rfl, by simp⟩
  · rw [hr j (by simp)] at hj; simp at hj
  · simp at hj
    simp [show j ≠ 0 by omega]
  · rw [hafter] at hid
    split at hid
    · rename_i e; subst e
      simp only [Option.some.injEq] at hid; subst hid
      exact ⟨.at b base, rfl, none, 0, 0, fun _ _ => False, a1, a4, b1, b4, f0, ⟨rfl, Nat.le_refl _, by simp [bodyOk], rfl, fun _ _ h => h⟩, fun o q => q.elim, fun b' o => by simp⟩
    · simp at hid
  · rw [hafter] at h1 h2
    by_cases e1 : id = 0
    · by_cases e2 : id' = 0
      · exact absurd (e1.trans e2.symm) hne
      · simp [e2] at h2
    · simp [e1] at h1

theorem FnOk.logPut {g : Ctx} (hU : CtxU g) {f : FuncId} {args : List SV} {l : List (List Int)} {r : List Int} {v : SV} {n : Nat} {pl : List Plan} {new : Nat} {C : List Prop}
    (h : runF g n pl f args [.cells [.int .i64 l.length, .own 1], .rows [.i64, .i64] l] [new] = some (v, [some (.cells [.int .i64 (l.length + 1), .own 2]), none, some (.rows [.i64, .i64] (l ++ [r]))], C))
    (hC : AllC C) (hn : 2 ≤ new) (hv : mapC only0 v = v) : FnOk g f args [.log l] { val := v, upd := [(0, some (.log (l ++ [r])))] } := by
  refine FnOk.log (l' := l ++ [r]) ?_ hv
  have e : (((l ++ [r]).length : Nat) : Int) = (l.length : Int) + 1 := by simp
  rw [e]
  exact FnOk.run (out := { val := v, upd := [(0, some (.cells [.int .i64 (l.length + 1), .own 2])), (1, none)], new := [.rows [.i64, .i64] (l ++ [r])] }) hU h hC (by simp [upto]; omega) rfl (by simp) (by simp) (fun j hj => by
    match j, hj with
    | 0, _ => rfl
    | 1, _ => rfl
    | 2, _ => rfl)

def logF : SumF := fun args B => match args, B with
  | [.ptr 0 0, .int .i64 k, .int .i64 v], [.log l] => some { val := .tuple [], upd := [(0, some (.log (l ++ [[k, v]])))], C := [l.length < 1099511627776] }
  | [.raw (.pointer none), .int .i64 _, .int .i64 _], [] => some { val := .tuple [] }
  | _, _ => none
def opF : SumF := fun args B => match args, B with
  | [.ptr 0 0, .int .i64 k], [.log l] => some { val := .tuple [], upd := [(0, some (.log (l ++ [[3, k]])))], C := [l.length < 1099511627776] }
  | [.raw (.pointer none), .int .i64 _], [] => some { val := .tuple [] }
  | _, _ => none
def atF : SumF := fun args B => match args, B with
  | [.ptr 0 0, .int .i64 k], [.log l] => some { val := .int .i64 k, upd := [(0, some (.log (l ++ [[2, k]])))], C := [l.length < 1099511627776] }
  | [.raw (.pointer none), .int .i64 k], [] => some { val := .int .i64 k }
  | _, _ => none
def ifF : SumF := fun args B => match args, B with
  | [.ptr 0 0, .sbool b], [.log l] => some { val := .sbool b, upd := [(0, some (.log (l ++ [[1, if b = true then 1 else 0]])))], C := [l.length < 1099511627776] }
  | [.raw (.pointer none), .sbool b], [] => some { val := .sbool b }
  | _, _ => none
def newF : SumF := fun args B => match args, B with
  | [], [] => some { val := .ptr 0 0, new := [.log []] }
  | _, _ => none
def totalF : SumF := fun args B => match args, B with
  | [.ptr 0 0], [.log l] => some { val := .int .i64 l.length }
  | [.raw (.pointer none)], [] => some { val := .lit .i64 0 }
  | _, _ => none

section
variable {g : Ctx} {f : FuncId}
theorem log_bounds {l : List (List Int)} (h : l.length < 1099511627776) (r : List Int) : (l ++ [r]).length * 16 ≤ 140737488355328 ∧ Fits .i64 ((l.length : Int) + 1) := by
  refine ⟨by simp only [List.length_append, List.length_cons, List.length_nil]; omega, ?_⟩
  constructor
  · show (-9223372036854775808 : Int) ≤ _; omega
  · show _ ≤ (9223372036854775807 : Int); omega

theorem logF_ok (hU : CtxU g)
    (hrun : ∀ (k v n : Int) (l : List (List Int)), runF g 60 [] f [.ptr 0 0, .int .i64 k, .int .i64 v] [.cells [.int .i64 n, .own 1], .rows [.i64, .i64] l] [3] = some (.tuple [], [some (.cells [.int .i64 (n + 1), .own 2]), none, some (.rows [.i64, .i64] (l ++ [[k, v]]))], [(l ++ [[k, v]]).length * 16 ≤ 140737488355328, Fits .i64 (n + 1)]))
    (hnil : ∀ k v : Int, runF g 60 [] f [.raw (.pointer none), .int .i64 k, .int .i64 v] [] [] = some (.tuple [], [], [])) (args : List SV) (B : List Body) (out : OpOut) (h : logF args B = some out) (hC : AllC out.C) : FnOk g f args B out := by
  unfold logF at h
  split at h
  · rename_i k v l
    simp only [Option.some.injEq] at h; subst h
    have hl := log_bounds (hC _ (.head _)) [k, v]
    exact (FnOk.logPut hU (hrun k v _ l) (by rw [allC_cons, allC_cons, allC_nil]; exact ⟨hl.1, hl.2, trivial⟩) (by decide) rfl)
  · simp only [Option.some.injEq] at h; subst h
    exact FnOk.pure hU (hnil _ _) (by simp [AllC])
  · simp at h

theorem opF_ok (hU : CtxU g)
    (hrun : ∀ (k n : Int) (l : List (List Int)), runF g 60 [] f [.ptr 0 0, .int .i64 k] [.cells [.int .i64 n, .own 1], .rows [.i64, .i64] l] [3] = some (.tuple [], [some (.cells [.int .i64 (n + 1), .own 2]), none, some (.rows [.i64, .i64] (l ++ [[3, k]]))], [(l ++ [[3, k]]).length * 16 ≤ 140737488355328, Fits .i64 (n + 1)]))
    (hnil : ∀ k : Int, runF g 60 [] f [.raw (.pointer none), .int .i64 k] [] [] = some (.tuple [], [], [])) (args : List SV) (B : List Body) (out : OpOut) (h : opF args B = some out) (hC : AllC out.C) : FnOk g f args B out := by
  unfold opF at h
  split at h
  · rename_i k l
    simp only [Option.some.injEq] at h; subst h
    have hl := log_bounds (hC _ (.head _)) [3, k]
    exact (FnOk.logPut hU (hrun k _ l) (by rw [allC_cons, allC_cons, allC_nil]; exact ⟨hl.1, hl.2, trivial⟩) (by decide) rfl)
  · simp only [Option.some.injEq] at h; subst h
    exact FnOk.pure hU (hnil _) (by simp [AllC])
  · simp at h

theorem atF_ok (hU : CtxU g)
    (hrun : ∀ (k n : Int) (l : List (List Int)), runF g 60 [] f [.ptr 0 0, .int .i64 k] [.cells [.int .i64 n, .own 1], .rows [.i64, .i64] l] [3] = some (.int .i64 k, [some (.cells [.int .i64 (n + 1), .own 2]), none, some (.rows [.i64, .i64] (l ++ [[2, k]]))], [(l ++ [[2, k]]).length * 16 ≤ 140737488355328, Fits .i64 (n + 1)]))
    (hnil : ∀ k : Int, runF g 60 [] f [.raw (.pointer none), .int .i64 k] [] [] = some (.int .i64 k, [], [])) (args : List SV) (B : List Body) (out : OpOut) (h : atF args B = some out) (hC : AllC out.C) : FnOk g f args B out := by
  unfold atF at h
  split at h
  · rename_i k l
    simp only [Option.some.injEq] at h; subst h
    have hl := log_bounds (hC _ (.head _)) [2, k]
    exact (FnOk.logPut hU (hrun k _ l) (by rw [allC_cons, allC_cons, allC_nil]; exact ⟨hl.1, hl.2, trivial⟩) (by decide) rfl)
  · simp only [Option.some.injEq] at h; subst h
    exact FnOk.pure hU (hnil _) (by simp [AllC])
  · simp at h

theorem ifF_ok (hU : CtxU g)
    (hrun : ∀ (b : Bool) (n : Int) (l : List (List Int)), runF g 60 [.br b] f [.ptr 0 0, .sbool b] [.cells [.int .i64 n, .own 1], .rows [.i64, .i64] l] [3] = some (.sbool b, [some (.cells [.int .i64 (n + 1), .own 2]), none, some (.rows [.i64, .i64] (l ++ [[1, if b = true then 1 else 0]]))], [b = b, (l ++ [[1, if b = true then 1 else 0]]).length * 16 ≤ 140737488355328, Fits .i64 (n + 1)]))
    (hnil : ∀ b : Bool, runF g 60 [.br b] f [.raw (.pointer none), .sbool b] [] [] = some (.sbool b, [], [b = b])) (args : List SV) (B : List Body) (out : OpOut) (h : ifF args B = some out) (hC : AllC out.C) : FnOk g f args B out := by
  unfold ifF at h
  split at h
  · rename_i b l
    simp only [Option.some.injEq] at h; subst h
    have hl := log_bounds (hC _ (.head _)) [1, if b = true then 1 else 0]
    exact (FnOk.logPut hU (hrun b _ l) (by rw [allC_cons, allC_cons, allC_cons, allC_nil]; exact ⟨rfl, hl.1, hl.2, trivial⟩) (by decide) rfl)
  · simp only [Option.some.injEq] at h; subst h
    exact FnOk.pure hU (hnil _) (by rw [allC_cons, allC_nil]; exact ⟨rfl, trivial⟩)
  · simp at h

theorem newF_ok (hU : CtxU g) (hrun : runF g 60 [] f [] [] [0] = some (.ptr 0 0, [some (.cells [.lit .i64 0, .raw (.slice none 0 0)])], [])) (args : List SV) (B : List Body) (out : OpOut) (h : newF args B = some out) (_ : AllC out.C) : FnOk g f args B out := by
  unfold newF at h
  split at h
  · simp only [Option.some.injEq] at h; subst h
    exact FnOk.logNew (FnOk.run (out := { val := .ptr 0 0, new := [.cells [.lit .i64 0, .raw (.slice none 0 0)]] }) hU hrun (by simp [AllC]) (by simp [upto]) rfl (by simp) (by simp) (fun j hj => by
      match j, hj with
      | 0, _ => rfl))
  · simp at h

theorem totalF_ok (hU : CtxU g)
    (hrun : ∀ (n : Int) (l : List (List Int)), runF g 60 [] f [.ptr 0 0] [.cells [.int .i64 n, .own 1], .rows [.i64, .i64] l] [] = some (.int .i64 n, [some (.cells [.int .i64 n, .own 1]), some (.rows [.i64, .i64] l)], []))
    (hnil : runF g 60 [] f [.raw (.pointer none)] [] [] = some (.lit .i64 0, [], [])) (args : List SV) (B : List Body) (out : OpOut) (h : totalF args B = some out) (_ : AllC out.C) : FnOk g f args B out := by
  unfold totalF at h
  split at h
  · rename_i l
    simp only [Option.some.injEq] at h; subst h
    exact FnOk.logRead (FnOk.run (out := { val := .int .i64 l.length }) hU (hrun _ l) (by simp [AllC]) (by simp [upto]) rfl (by simp) (by simp) (fun j hj => by
      match j, hj with
      | 0, _ => rfl
      | 1, _ => rfl)) rfl
  · simp only [Option.some.injEq] at h; subst h
    exact FnOk.pure hU hnil (by simp [AllC])
  · simp at h
end

/-! ### accounts of a kind -/
/-- an account, for all arguments -/
abbrev Acc (g : Ctx) (f : FuncId) (F : SumF) : Prop := ∀ args B out, F args B = some out → AllC out.C → FnOk g f args B out
theorem Acc.lift {g g' : Ctx} (hP : g.P = g'.P) (hg : g.glob = g'.glob) {f : FuncId} {F : SumF} (h : Acc g f F) : SumU g' f (mkSumN F) := by
  obtain ⟨P, s, gl⟩ := g
  obtain ⟨P', s', gl'⟩ := g'
  simp only at hP hg; subst hP; subst hg
  exact SumU.mkN (g := ⟨P, s', gl⟩) h
/-- a function of numbers alone: n of kind k to n' of kind k' -/
def arrF (n : Nat) (k : IntKind) (n' : Nat) (k' : IntKind) (f : List Int → Nat → Int) : SumF := fun args B => match args, B with
  | [.agg xs], [] => match numsAs (List.replicate n k) xs with
    | some la => some { val := .agg (svF (List.replicate n' k') (f la) 0) }
    | none => none
  | _, _ => none
theorem arr_ok {g : Ctx} (hU : CtxU g) {n n' : Nat} {k k' : IntKind} {f : List Int → Nat → Int} {fn : FuncId} (hrun : ∀ la : List Int, ∃ m, runF g m [] fn [.agg (svF (List.replicate n k) (atL la) 0)] [] [] = some (.agg (svF (List.replicate n' k') (f la) 0), [], [])) : Acc g fn (arrF n k n' k' f) := by
  intro args B out h _
  unfold arrF at h
  split at h
  · split at h
    · rename_i la ha
      simp only [Option.some.injEq] at h; subst h
      obtain ⟨m, hm⟩ := hrun la
      exact FnOk.imp (FnOk.pure hU hm (by simp [AllC])) ⟨nums_imp ha, trivial⟩
    · simp at h
  · simp at h
end Go.Vx

/- Code within a round of a range over a function. -/
namespace Go.Vx
open Go

abbrev FR (l : Nat) : Fence := Fence.wide.inRound l

theorem rows_in {P : Program} {l n : Nat} {row : String} {args : Array Value} {w : World} {R : Value → World → Prop} (h : Rows P row args w R) : RowsIn (FR l) n P row args w R :=
  fun c cs _ => let ⟨v, w', r, s⟩ := h c cs; ⟨v, w', r, stepsIn_wide.2 s⟩
theorem calls_in {P : Program} {l n : Nat} {f : FuncId} {args : Array Value} {w : World} {R : Ending → World → Prop} (h : Calls P f args w R) : CallsIn (FR l) n P f args w R := (callsIn_wide (n := n)).2 h

theorem oper_in {P : Program} {o : Oper} {Q : Exit → Act → World → Prop} {K : Act → World → Prop} {l n : Nat} (hd : ∀ c, o.op ≠ .defer c) {a : Act} {w : World} (h : o.wp P a w K Q) : o.wpIn (FR l) n P a w K Q := by
  refine ⟨fun _ _ => trivial, ?_⟩
  rw [show (FR l).round = some l from rfl, Oper.semAt_eq _ _ _ hd]
  unfold Oper.wp at h
  generalize (execOp a.eval o).run P w = r at h
  unfold Oper.upon at h
  unfold Oper.uponIn
  split at h <;> first | exact h | skip
  · exact ⟨fun h => by simp [Fence.wide] at h, CallsIn.mono (calls_in h) fun e w' he => by
      cases e with
      | returned v => exact he
      | panicked c => exact he
      | outgrown => exact he⟩
  · exact ⟨fun h => by simp [Fence.wide] at h, RowsIn.mono (rows_in h) fun v w' he => he⟩
  · exact h.elim

theorem op_in {P : Program} {ops : Array Oper} {Q : Exit → Act → World → Prop} {K : Act → World → Prop} {l n i : Nat} (hd : ∀ (i : Nat) (o : Oper), ops[i]? = some o → ∀ c, o.op ≠ .defer c) (hQ : ¬ LetsOut Q) {a : Act} {w : World} (h : wpOp P ops Q i K a w) :
    wpOpIn (FR l) n P ops Q i K a w := by
  unfold wpOp at h
  unfold wpOpIn
  cases ho : ops[i]? with
  | none => rw [ho] at h; exact h
  | some o =>
    rw [ho] at h
    simp only at h ⊢
    split at h
    · rename_i hw
      rw [if_pos hw]
      rcases h with h | ⟨_, h⟩
      · exact oper_in (hd i o ho) h
      · exact absurd h hQ
    · rename_i hw
      rw [if_neg hw]
      exact ⟨fun _ _ => trivial, h⟩

theorem opIn_mono {F : Fence} {P : Program} {ops : Array Oper} {Q : Exit → Act → World → Prop} {K K' : Act → World → Prop} {n i : Nat} {a : Act} {w : World} (hk : ∀ a w, K a w → K' a w) (h : wpOpIn F n P ops Q i K a w) : wpOpIn F n P ops Q i K' a w := by
  unfold wpOpIn at h ⊢
  split at h
  · exact hk _ _ h
  · split at h
    · rename_i hw; rw [if_pos hw]; exact Oper.wpIn_mono hk h
    · rename_i hw; rw [if_neg hw]; exact ⟨h.1, hk _ _ h.2⟩

theorem wpOps_in {P : Program} {ops : Array Oper} {Q : Exit → Act → World → Prop} {l n : Nat} (hd : ∀ (i : Nat) (o : Oper), ops[i]? = some o → ∀ c, o.op ≠ .defer c) (hQ : ¬ LetsOut Q) : ∀ (s : List Nat) (a : Act) (w : World), wpOps P ops Q s a w → wpOpsIn (FR l) n P ops Q s a w
  | [], a, w, h => h
  | i :: s, a, w, h => by
    rw [wpOps_cons] at h
    rw [wpOpsIn_cons]
    exact opIn_mono (fun a w => wpOps_in hd hQ s a w) (op_in hd hQ h)

theorem wpAny_in {P : Program} {md : Region.Mode} {ops : Array Oper} {Q : Exit → Act → World → Prop} {l n : Nat} (hd : ∀ (i : Nat) (o : Oper), ops[i]? = some o → ∀ c, o.op ≠ .defer c) (hQ : ¬ LetsOut Q) : ∀ (fuel : Nat) (li : Array Bool) (a : Act) (w : World), wpAny P md ops Q fuel li a w → wpAnyIn (FR l) n P md ops Q fuel li a w
  | 0, li, a, w, h => h
  | fuel + 1, li, a, w, h => ⟨h.1, fun i hi => opIn_mono (fun a w => wpAny_in hd hQ fuel _ a w) (op_in hd hQ (h.2 i hi))⟩

/-! ### the executor within a round -/
def noDefer (ops : List Oper) : Bool := ops.all fun o => match o.op with | .defer _ => false | _ => true
def plainC : Code → Bool
  | .skip | .label _ | .exit _ | .ret => true
  | .seq x y => (plainC x).and (plainC y)
  | .block _ c => plainC c
  | .cond _ x y => (plainC x).and (plainC y)
  | .region _ ops _ => noDefer ops.toList
  | _ => false
theorem noDefer_spec {ops : Array Oper} (h : noDefer ops.toList = true) (i : Nat) (o : Oper) (ho : ops[i]? = some o) (c : Call) : o.op ≠ .defer c := fun e => by
  unfold noDefer at h
  rw [List.all_eq_true] at h
  have := h o (List.mem_of_getElem? (by simpa using ho))
  rw [e] at this; simp at this

section
variable {w0 : World} {O : Own} {P : Program} {nT l : Nat}

def SimF (P : Program) (w0 : World) (O : Own) (l nT : Nat) (c : Code) (T : Tmps) (H : Heap) (e : Ex) (T' : Tmps) (H' : Heap) : Prop := H.nx ≤ H'.nx ∧
  ∀ ρ Φ a w, RelA nT w0 O ρ (tget T) (hget H) Φ a w → (∀ id, H.nx ≤ id → id < H'.nx → ρ id = none) →
    c.wpIn (FR l) 0 P (fun e' a' w' => e' = e.up ∧ Done nT w0 O ρ (tget T') (hget H') H.nx H'.nx a' w') a w

theorem SimF.seq {x y : Code} {T T1 T2 : Tmps} {H H1 H2 : Heap} {e : Ex} (h1 : SimF P w0 O l nT x T H .normal T1 H1) (h2 : SimF P w0 O l nT y T1 H1 e T2 H2) : SimF P w0 O l nT (.seq x y) T H e T2 H2 := by
  refine ⟨Nat.le_trans h1.1 h2.1, fun ρ Φ a w r hf => ?_⟩
  refine wpIn_seq (wpIn_mono (h1.2 ρ Φ a w r fun id p q => hf id p (Nat.lt_of_lt_of_le q h2.1)) fun e' a' w' ⟨he, ρ', Φ', q1, q2, q3⟩ => ?_)
  subst he
  exact wpIn_mono (h2.2 ρ' Φ' a' w' q3 (fresh_after q2 hf h1.1)) fun e2 a2 w2 ⟨he2, hd⟩ => ⟨he2, Done.trans q1 q2 h1.1 h2.1 hd⟩
theorem SimF.seq_out {x y : Code} {T T1 : Tmps} {H H1 : Heap} {e : Ex} (h1 : SimF P w0 O l nT x T H e T1 H1) (he : e ≠ .normal) : SimF P w0 O l nT (.seq x y) T H e T1 H1 := by
  refine ⟨h1.1, fun ρ Φ a w r hf => ?_⟩
  refine wpIn_seq (wpIn_mono (h1.2 ρ Φ a w r hf) fun e' a' w' h => ?_)
  obtain ⟨e1, hd⟩ := h
  subst e1
  cases e with
  | normal => exact absurd rfl he
  | exit i => exact ⟨rfl, hd⟩
  | ret => exact ⟨rfl, hd⟩
theorem SimF.block {c : Code} {id : Nat} {T T1 : Tmps} {H H1 : Heap} {e e2 : Ex} (h1 : SimF P w0 O l nT c T H e T1 H1) (h2 : (e = .exit id ∧ e2 = .normal) ∨ (e ≠ .exit id ∧ e2 = e)) : SimF P w0 O l nT (.block id c) T H e2 T1 H1 := by
  refine ⟨h1.1, fun ρ Φ a w r hf => ?_⟩
  refine wpIn_block (wpIn_mono (h1.2 ρ Φ a w r hf) fun e' a' w' h => ?_)
  obtain ⟨e1, hd⟩ := h
  subst e1
  rcases h2 with ⟨rfl, rfl⟩ | ⟨hne, rfl⟩
  · simp only [Ex.up, Exit.inBlock, if_true]; exact ⟨trivial, hd⟩
  · cases e2 with
    | normal => exact ⟨rfl, hd⟩
    | exit i =>
      have hi : ¬ i = id := fun e => hne (by rw [e])
      simp only [Ex.up, Exit.inBlock, if_neg hi]; exact ⟨trivial, hd⟩
    | ret => exact ⟨rfl, hd⟩

theorem not_outgrown {e : Ex} {R : Act → World → Prop} : ¬ LetsOut (fun e' a' w' => e' = e.up ∧ R a' w') := fun ⟨_, _, h, _⟩ => by cases e <;> cases h

theorem regionF_ok {g : Ctx} (hc : CtxOk g w0 O) {call : CallF} (hK : CallOk g.P w0 O call) {nT id : Nat} (hn : nT < 65535) {ops : Array Oper} (hnd : noDefer ops.toList = true) {draw : Bool} (hsh : shapeOk nT ops.toList = true) {T : Tmps} {H : Heap} {pl : List Plan} {s : RunSt}
    (h : runOps g call (prep ops.toList) 0 ⟨T, H, pl, [], [], false⟩ = some s) (hd : draw = true → staticOk ops.toList = true ∧ (s.any = false ∨ heapOk s.recs = true)) (hC : AllC s.C) :
    SimF g.P w0 O l nT (.region id ops draw) T H .normal s.T s.H := by
  obtain ⟨_, S, pp, d, r, e1, e2⟩ := run_ok hc.glob hc.sums hK hn hsh h hC
  have eT : (S 0).T = T := by rw [e1]
  have eH : (S 0).H = H := by rw [e1]
  have hnx := r.nx_le (Nat.zero_le ops.size) (Nat.le_refl _)
  rw [eH, e2] at hnx
  refine ⟨hnx, fun ρ Φ a w x hf => ?_⟩
  have hQ : ∀ a' w', Done nT w0 O ρ (tget (S ops.size).T) (hget (S ops.size).H) (S 0).H.nx (S ops.size).H.nx a' w' →
      (fun e' a' w' => e' = Ex.normal.up ∧ Done nT w0 O ρ (tget s.T) (hget s.H) H.nx s.H.nx a' w') Exit.normal a' w' := fun a' w' h => by
    rw [e2, eH] at h; exact ⟨rfl, h⟩
  cases draw with
  | false =>
    refine wpIn_region (wpOps_in (noDefer_spec hnd) not_outgrown _ _ _ ?_)
    rw [List.range_eq_range']
    refine r.text hQ ops.size 0 (by omega) ρ Φ a w (Ext.refl ρ) (fun _ h => absurd rfl h) (by rw [eT, eH]; exact x) (by rw [eH, e2]; exact hf)
  | true =>
    obtain ⟨h1, h2⟩ := hd rfl
    unfold staticOk at h1
    simp only [Bool.and_eq_true] at h1
    refine wpIn_region_any hc.mixed (wpAny_in (noDefer_spec hnd) not_outgrown _ _ _ _ ?_)
    have hrep : (fun x => (Array.replicate ops.size false).getD x false) = fun _ => false := by
      funext i
      rcases Nat.lt_or_ge i ops.size with hi | hi <;> simp [hi]
    refine r.draw ?_ ?_ (fun i o ho e he hb => by have := edgesOk_spec h1.2 i o ho e he hb; omega) hQ ops.size (Array.replicate ops.size false) (by simp) ?_ ?_ ρ Φ a _ (Ext.refl ρ) (fun _ h => absurd rfl h) ?_ ?_
    · intro i j hij hj
      have := tmpsOk_spec h1.1 i j (pp i) (pp j) hij (by simp) (by simpa using r.list i (by omega)) (by simpa using r.list j hj)
      exact this
    · rcases h2 with h2 | h2
      · intro i j hij hj
        have := r.calm (by rw [e2]; exact h2)
        exact .inr (.inr (.inr (.inl ⟨this i (by omega), this j hj⟩)))
      · exact r.recs (by rw [e2]; exact h2)
    · rw [hrep]; intro j o h; simp at h
    · rw [hrep]
      have : ∀ m, unl (fun _ => false) m = m := fun m => by induction m with
        | zero => rfl
        | succ m ih => simp [unl, ih]
      rw [this]; exact Nat.le_refl _
    · rw [hrep]
      have t0 : ∀ m, tD S pp d (fun _ => false) m = tget T := fun m => by induction m with
        | zero => simp [tD, eT]
        | succ m ih => simp [tD, ih]
      have h0 : ∀ m, hD S d (fun _ => false) m = hget H := fun m => by induction m with
        | zero => simp [hD, eH]
        | succ m ih => simp [hD, ih]
      rw [t0, h0]
      exact ⟨x.size, x.defers, x.tmps, x.heap.heapEq rfl rfl rfl rfl⟩
    · intro j hj _ id a1 a2
      have n1 := r.nx_le (Nat.zero_le j) (by omega)
      have n3 := r.nx_le (show j + 1 ≤ ops.size by omega) (Nat.le_refl _)
      rw [eH] at n1; rw [e2] at n3
      exact hf id (by omega) (by omega)

theorem execF_ok {g : Ctx} (hc : CtxOk g w0 O) : ∀ n nT pl c T H o, plainC c = true → nT < 65535 → exec g (LoopGood g) n nT pl c T H = some o → AllC o.C → SimF g.P w0 O l nT c T H o.e o.T o.H
  | 0 => fun _ _ _ _ _ _ _ _ h => by simp [exec] at h
  | n + 1 => by
    have ih := execF_ok hc n
    intro nT pl c T H o hp hn h hC
    unfold exec at h
    cases c with
    | skip =>
      simp only [Option.some.injEq] at h; subst h
      exact ⟨Nat.le_refl _, fun ρ Φ a w x _ => wpIn_skip ⟨rfl, ρ, Φ, Ext.refl ρ, fun _ h => absurd rfl h, x⟩⟩
    | label l =>
      simp only [Option.some.injEq] at h; subst h
      exact ⟨Nat.le_refl _, fun ρ Φ a w x _ => wpIn_label ⟨rfl, ρ, Φ, Ext.refl ρ, fun _ h => absurd rfl h, x⟩⟩
    | exit i =>
      simp only [Option.some.injEq] at h; subst h
      exact ⟨Nat.le_refl _, fun ρ Φ a w x _ => wpIn_exit ⟨rfl, ρ, Φ, Ext.refl ρ, fun _ h => absurd rfl h, x⟩⟩
    | ret =>
      simp only [Option.some.injEq] at h; subst h
      exact ⟨Nat.le_refl _, fun ρ Φ a w x _ => wpIn_ret ⟨rfl, ρ, Φ, Ext.refl ρ, fun _ h => absurd rfl h, x⟩⟩
    | seq x y =>
      simp only [plainC, Bool.and_eq_true] at hp
      simp only at h
      split at h
      · rename_i T1 H1 pl1 C1 h1
        split at h
        · rename_i o2 h2
          simp only [Option.some.injEq] at h; subst h
          obtain ⟨c1, c2⟩ := hC.append
          have k1 := ih _ _ _ _ _ _ hp.1 hn h1 c1
          have k2 := ih _ _ _ _ _ _ hp.2 hn h2 c2
          exact SimF.seq k1 k2
        · simp at h
      · rename_i r hne
        rw [h] at hne
        obtain ⟨e, T1, H1, pl1, C1⟩ := o
        exact SimF.seq_out (ih _ _ _ _ _ _ hp.1 hn h hC) (fun he => by simp only at he; subst he; exact hne _ _ _ _ rfl)
    | block id c =>
      have hp : plainC c = true := hp
      simp only at h
      split at h
      · rename_i i T1 H1 pl1 C1 h1
        split at h
        · rename_i hb
          simp only [Option.some.injEq] at h; subst h
          have : i = id := Nat.eq_of_beq_eq_true hb
          subst this
          have k1 := ih nT pl c T H ⟨.exit i, T1, H1, pl1, C1⟩ hp hn h1 hC
          exact SimF.block k1 (.inl ⟨rfl, rfl⟩)
        · rename_i hb
          simp only [Option.some.injEq] at h; subst h
          have k1 := ih nT pl c T H ⟨.exit i, T1, H1, pl1, C1⟩ hp hn h1 hC
          refine SimF.block k1 (.inr ⟨fun e => ?_, rfl⟩)
          injection e with e
          subst e
          rw [Nat.beq_refl] at hb; simp at hb
      · rename_i r hne
        rw [h] at hne
        obtain ⟨e, T1, H1, pl1, C1⟩ := o
        exact SimF.block (ih _ _ _ _ _ _ hp hn h hC) (.inr ⟨fun he => by simp only at he; subst he; exact hne _ _ _ _ _ rfl, rfl⟩)
    | cond c x y =>
      simp only [plainC, Bool.and_eq_true] at hp
      have pick : ∀ {b : Bool} {l' : Bool} {T1 : Tmps} {H1 : Heap} {e : Ex}, boolOf (opnd g (tget T) c) = some (l', b) → SimF g.P w0 O l nT (if b = true then x else y) T H e T1 H1 → SimF g.P w0 O l nT (.cond c x y) T H e T1 H1 := by
        intro b l' T1 H1 e hb hs
        refine ⟨hs.1, fun ρ Φ a w r hf => ?_⟩
        have hv := denV_bool (opnd_den hc.glob (ρ := ρ) (T := tget T) (a := a) (x := c) fun t _ => r.tmps t) hb
        exact wpIn_cond hv (hs.2 ρ Φ a w r hf)
      simp only at h
      split at h
      · rename_i hb; exact pick hb (by simpa using ih _ _ _ _ _ _ hp.1 hn h hC)
      · rename_i hb; exact pick hb (by simpa using ih _ _ _ _ _ _ hp.2 hn h hC)
      · rename_i b hb
        split at h
        · split at h
          · rename_i o2 h2
            simp only [Option.some.injEq] at h; subst h
            have hbt : b = true := hC _ (by simp)
            subst hbt
            exact pick hb (by simpa using ih _ _ _ _ _ _ hp.1 hn h2 (fun p hp => hC p (by simp [hp])))
          · simp at h
        · split at h
          · rename_i o2 h2
            simp only [Option.some.injEq] at h; subst h
            have hbt : b = false := hC _ (by simp)
            subst hbt
            exact pick hb (by simpa using ih _ _ _ _ _ _ hp.2 hn h2 (fun p hp => hC p (by simp [hp])))
          · simp at h
        · simp at h
      · simp at h
    | region id ops draw =>
      have hp : noDefer ops.toList = true := hp
      have hK := callOf_ok hc (exec_ok hc n)
      simp only at h
      split at h
      · simp at h
      · rename_i hsh
        split at h
        · rename_i s hs
          split at h
          · simp only [Option.some.injEq] at h; subst h
            exact regionF_ok hc hK hn hp hsh hs (by simp) hC
          · rename_i hany
            split at h
            · rename_i hst
              simp only [Option.some.injEq] at h; subst h
              exact regionF_ok hc hK hn hp hsh hs (fun _ => ⟨hst, .inl hany⟩) hC
            · simp at h
          · split at h
            · rename_i hst
              simp only [Option.some.injEq] at h; subst h
              simp only [Bool.and_eq_true] at hst
              exact regionF_ok hc hK hn hp hsh hs (fun _ => ⟨hst.1, .inr hst.2⟩) hC
            · simp at h
        · simp at h
    | _ => simp [plainC] at hp
end

/-! ### seen from another world on -/
section
variable {w0 w1 : World} {O O1 : Own} {ρ ρ' : Rho} {H H' : Nat → Option Body} {w w2 : World} {Φ Φ' : Nat → Foot}
theorem cellsAt_cong (hO : O.mem = O1.mem) {b base : Nat} {cs : List SV} (x : CellsAt w0 O ρ w b base cs) : CellsAt w1 O1 ρ w b base cs :=
  fun j c hc => let ⟨v, g1, g2, g3⟩ := x j c hc; ⟨v, g1, denC_cong hO _ _ _ g2, g3⟩
theorem ownAt_cong (hO : O.mem = O1.mem) {bd : Body} {loc : Option (Nat × Nat)} {len cap : Nat} {F : Foot} (x : OwnAt w0 O ρ w bd loc len cap F) : OwnAt w1 O1 ρ w bd loc len cap F := by
  obtain ⟨h1, h2, h3, h4⟩ := x
  refine ⟨h1, h2, h3, ?_⟩
  cases loc with
  | none => exact h4
  | some y => exact ⟨h4.1, cellsAt_cong hO h4.2.1, h4.2.2⟩
theorem holds_cong (hO : O.mem = O1.mem) (hl : O.lent = O1.lent) {bd : Body} {hd : Hd} {F : Foot} (x : Holds w0 O ρ w bd hd F) : Holds w1 O1 ρ w bd hd F := by
  cases bd <;> cases hd <;> simp only [Holds] at x ⊢
  case log.at l b base =>
    obtain ⟨loc, len, cap, F1, h1, h2, h3, h4, h5, h6, h7⟩ := x
    exact ⟨loc, len, cap, F1, h1, h2, h3, h4, h5, ownAt_cong hO h6, h7⟩
  case grow.sl ks l loc len cap =>
    obtain ⟨n, F0, h1, h2, h3, h4⟩ := x
    exact ⟨n, F0, h1, ownAt_cong hO h2, h3, by rw [← hO, ← hl]; exact h4⟩
  all_goals first | exact ownAt_cong hO x | exact ⟨x.1, x.2.1, cellsAt_cong hO x.2.2⟩

def baseO (O : Own) (H : Nat → Option Body) (Φ : Nat → Foot) : Own := ⟨fun b o => ∃ id, H id ≠ none ∧ Φ id b o, O.mem, O.lent⟩
theorem RelH.base (x : RelH w0 O ρ H w Φ) : RelH w (baseO O H Φ) ρ H w Φ :=
  ⟨Frame.refl _ _ (fun b o _ ⟨id, m, hF⟩ => x.quiet m hF) (fun b o v hm => by
      obtain ⟨q1, q2⟩ := x.frame.mem b o v hm
      exact ⟨x.frame.cell q1 q2, fun ⟨id, m, hF⟩ => q2 ((x.mine id b o m hF).2 (World.block_lt_of_cell? w0 _ q1))⟩),
    fun id bd hb => let ⟨hd, q1, q2⟩ := x.holds id bd hb; ⟨hd, q1, holds_cong (w0 := w0) (O := O) (O1 := baseO O H Φ) rfl rfl q2⟩, x.disj,
    fun id b o h hF => ⟨(x.mine id b o h hF).1, fun _ => ⟨id, h, hF⟩⟩⟩
theorem RelH.back (x : RelH w0 O ρ H w Φ) (y : RelH w (baseO O H Φ) ρ' H' w2 Φ') : RelH w0 O ρ' H' w2 Φ' :=
  have sub : ∀ b o, b < w0.heap.size → (baseO O H Φ).own b o → O.own b o := fun b o hb ⟨id, m, hF⟩ => (x.mine id b o m hF).2 hb
  ⟨x.frame.comp y.frame sub, fun id bd hb => let ⟨hd, q1, q2⟩ := y.holds id bd hb; ⟨hd, q1, holds_cong (O := baseO O H Φ) (O1 := O) rfl rfl q2⟩, y.disj,
    fun id b o h hF => ⟨(y.mine id b o h hF).1, fun hb => sub b o hb ((y.mine id b o h hF).2 (Nat.lt_of_lt_of_le hb x.frame.size))⟩⟩
theorem Frame.others (h : Frame w0 O w) : KeepsOthers w0 w := ⟨h.size, fun k o hk ho => by
  have hb := h.block k (Array.getElem?_eq_some_iff.1 hk).1
  rw [hk] at hb
  cases o <;> simp [Obj.isCells] at ho
  all_goals simpa [Kept] using hb⟩

/-- a piece of code within a round: what is no cells stands as it did -/
theorem SimF.keeps {P : Program} {l nT : Nat} {c : Code} {T T' : Tmps} {HH HH' : Heap} {e : Ex} (h : ∀ w0 O, O.mem = O1.mem → SimF P w0 O l nT c T HH e T' HH') {a : Act} (hO : O.mem = O1.mem)
    (x : RelA nT w0 O ρ (tget T) (hget HH) Φ a w) (hf : ∀ id, HH.nx ≤ id → id < HH'.nx → ρ id = none) :
    c.wpIn (FR l) 0 P (fun e' a' w' => e' = e.up ∧ Done nT w0 O ρ (tget T') (hget HH') HH.nx HH'.nx a' w' ∧ KeepsOthers w w') a w := by
  have y := x.heap.base
  refine wpIn_mono ((h w (baseO O (hget HH) Φ) hO).2 ρ Φ a w ⟨x.size, x.defers, fun t => denV_cong (w0 := w0) (O := O) (O1 := baseO O (hget HH) Φ) rfl (x.tmps t), y⟩ hf) fun e' a' w' ⟨he, ρ', Φ', q1, q2, q3⟩ =>
    ⟨he, ⟨ρ', Φ', q1, q2, q3.size, q3.defers, fun t => denV_cong (w0 := w) (O := baseO O (hget HH) Φ) (O1 := O) rfl (q3.tmps t), x.heap.back q3.heap⟩, q3.heap.frame.others⟩
end
end Go.Vx

/- A range over a function, round by round. -/
namespace Go.Vx
open Go

section
variable {w0 : World} {O : Own} {ρ ρ' : Rho} {H H' : Nat → Option Body} {w w2 : World} {Φ Φ' : Nat → Foot}

theorem cell_noncells {W : World} {b o : Nat} (h : ∀ c t fr, W.heap[b]? ≠ some (.cells c t fr)) : W.cell? (adr b o) = none := by
  show (match W.heap[b]? with | some (.cells c _ _) => c[o]? | _ => none) = none
  split
  · rename_i c t fr e; exact absurd e (h _ _ _)
  · rfl
theorem not_cells {o : Obj} (h : o.isCells = false) (c : Array Value) (t : TypeId) (fr : Nat × Nat) : o ≠ .cells c t fr := fun e => by rw [e] at h; simp [Obj.isCells] at h

theorem heap_alloc_old (W : World) (o : Obj) {k : Nat} (hk : k < W.heap.size) : (W.alloc o).heap[k]? = W.heap[k]? := by
  show (W.heap.push o)[k]? = _
  rw [Array.getElem?_push, if_neg (by omega)]
theorem heap_putObj (W : World) (l k : Nat) (o : Obj) (hl : l < W.heap.size) : (W.putObj l o).heap[k]? = if k = l then some o else W.heap[k]? := by
  split
  · subst_vars; exact World.putObj_heap_same hl
  · rename_i h; exact World.putObj_heap_other h

theorem RelH.putObj (x : RelH w0 O ρ H w Φ) {l : Nat} (hl : w0.heap.size ≤ l) {o o' : Obj} (ho : w.heap[l]? = some o) (hc : o.isCells = false) (hc' : o'.isCells = false) : RelH w0 O ρ H (w.putObj l o') Φ := by
  have hlt : l < w.heap.size := (Array.getElem?_eq_some_iff.1 ho).1
  have hh := fun k => heap_putObj w l k o' hlt
  have hsz : (w.putObj l o').heap.size = w.heap.size := by unfold World.putObj; simp
  refine x.move ⟨x.frame.os, x.frame.tape, x.frame.output, by rw [hsz]; exact x.frame.size, fun k hk => ?_, x.frame.mem, fun k hk => ?_⟩ (by rw [hsz]; exact Nat.le_refl _) fun id hid b o1 hF => ?_
  · rw [hh, if_neg (by omega)]; exact x.frame.block k hk
  · rw [hh]; split
    · intro c t fr e; simp only [Option.some.injEq] at e; exact absurd e (not_cells hc' _ _ _)
    · exact x.frame.calm k hk
  · have hne : b ≠ l := by
      rintro rfl
      obtain ⟨bd, hb⟩ : ∃ bd, H id = some bd := by cases e : H id with | none => exact absurd e hid | some b => exact ⟨b, rfl⟩
      obtain ⟨hd, _, hhh⟩ := x.holds id bd hb
      obtain ⟨v, hv⟩ := hhh.live hF
      rw [cell_noncells (fun c t fr e => by rw [ho] at e; simp only [Option.some.injEq] at e; exact not_cells hc _ _ _ e)] at hv
      simp at hv
    constructor
    · show (match (w.putObj l o').heap[b]? with | some (.cells c _ _) => c[o1]? | _ => none) = (match w.heap[b]? with | some (.cells c _ _) => c[o1]? | _ => none)
      rw [hh, if_neg hne]
    · show (match (w.putObj l o').heap[b]? with | some (.cells _ _ (lo, hi)) => decide (lo ≤ o1) && decide (o1 < hi) | _ => false) = (match w.heap[b]? with | some (.cells _ _ (lo, hi)) => decide (lo ≤ o1) && decide (o1 < hi) | _ => false)
      rw [hh, if_neg hne]

theorem RelH.allocObj (x : RelH w0 O ρ H w Φ) {o : Obj} (hc : o.isCells = false) : RelH w0 O ρ H (w.alloc o) Φ :=
  x.move (x.frame.alloc o fun c t fr e => by simp only [Option.some.injEq] at e; exact absurd e (not_cells hc _ _ _)) (by simp) fun id hid b o1 hF => by
    have := (x.mine id b o1 hid hF).1
    exact ⟨cell_alloc w o this o1, frozen_alloc w o this o1⟩

/-! ### one round -/
noncomputable def runR (g : Ctx) (n nT : Nat) (plA plB : List Plan) (A Bd : Code) (S : List (Nat × SV)) (B : List Body) (ids : List Nat) : Option (List (Option Body) × List Prop) :=
  match exec g (LoopGood g) n nT plA A (mkT S) (mkB B) with
  | some ⟨.normal, T1, H1, _, C1⟩ => match exec g (LoopGood g) n nT plB Bd T1 H1 with
    | some ⟨.normal, _, H2, _, C2⟩ => some (ids.map fun id => (hget H2 id).map (mapB (idx ids)), C1 ++ C2)
    | _ => none
  | _ => none

def RoundOk (g : Ctx) (nT : Nat) (A Bd : Code) (S : List (Nat × SV)) (B B' : List Body) (m : Nat) : Prop :=
  ∀ w0 O, GlobOk g w0 O → ∀ ρ Φ a w l, RelA nT w0 O ρ (tget (mkT S)) (BH B) Φ a w → (∀ j, B.length ≤ j → ρ j = none) → w0.heap.size ≤ l → (∃ o, w.heap[l]? = some o ∧ o.isCells = false) →
    A.wpIn (FR l) 0 g.P (Exit.then (fun a1 w1 => KeepsOthers w w1 ∧ ∀ o', o'.isCells = false →
      Bd.wpIn (FR l) 0 g.P (fun e _ w' => e = .normal ∧ KeepsOthers (w1.putObj l o') w' ∧ ∃ ρ' Φ', (∀ j h, j < m → ρ j = some h → ρ' j = some h) ∧ (∀ j, B'.length ≤ j → ρ' j = none) ∧ RelH w0 O ρ' (BH B') w' Φ') a1 (w1.putObj l o'))
      (fun _ _ _ => False)) a w

theorem RoundOk.run {g : Ctx} (hU : CtxU g) {n nT m : Nat} {plA plB : List Plan} {A Bd : Code} {S : List (Nat × SV)} {B B' : List Body} {ids : List Nat} {C : List Prop} (hA : plainC A = true) (hBd : plainC Bd = true) (hn : nT < 65535) (hB : B.length < 65535)
    (h : runR g n nT plA plB A Bd S B ids = some (B'.map some, C)) (hC : AllC C) (hnd : ids.Nodup) (hm : ∀ j, j < m → ids[j]? = some j) : RoundOk g nT A Bd S B B' m := by
  intro w0 O hG ρ Φ a w l r hr hl ⟨o, ho, hoc⟩
  unfold runR at h
  split at h
  · rename_i T1 H1 pl1 C1 h1
    split at h
    · rename_i T2 H2 pl2 C2 h2
      simp only [Option.some.injEq, Prod.mk.injEq] at h
      obtain ⟨hb, rfl⟩ := h
      obtain ⟨c1, c2⟩ := hC.append
      have s1 : ∀ w0' O', O'.mem = O.mem → SimF g.P w0' O' l nT A (mkT S) (mkB B) .normal T1 H1 := fun w0' O' hO => execF_ok (hU w0' O' (glob_cong hO.symm hG)) n _ _ _ _ _ _ hA hn h1 c1
      have s2 : ∀ w0' O', O'.mem = O.mem → SimF g.P w0' O' l nT Bd T1 H1 .normal T2 H2 := fun w0' O' hO => execF_ok (hU w0' O' (glob_cong hO.symm hG)) n _ _ _ _ _ _ hBd hn h2 c2
      rw [← hget_mkB hB] at r
      refine wpIn_mono (SimF.keeps s1 rfl r fun id hid _ => hr id hid) fun e' a' w' ⟨he, ⟨ρ1, Φ1, q1, q2, q3⟩, hk⟩ => ?_
      subst he
      refine ⟨hk, fun o' ho' => ?_⟩
      have ho1 := hk.same l o ho hoc
      have r1 : RelA nT w0 O ρ1 (tget T1) (hget H1) Φ1 a' (w'.putObj l o') := ⟨q3.size, q3.defers, q3.tmps, q3.heap.putObj hl ho1 hoc ho'⟩
      have hn1 := (s1 w0 O rfl).1
      have hn2 := (s2 w0 O rfl).1
      refine wpIn_mono (SimF.keeps s2 rfl r1 fun id h1 _ => ?_) fun e2 a2 w2 ⟨he2, ⟨ρ2, Φ2, p1, p2, p3⟩, hk2⟩ => ?_
      · by_cases e : ρ1 id = ρ id
        · rw [e]; exact hr id (Nat.le_trans hn1 h1)
        · have := (q2 id e).2; omega
      subst he2
      refine ⟨rfl, hk2, inR ρ2 ids, inF Φ2 ids, fun j h hj hh => by simp [inR, hm j hj, p1 j h (q1 j h hh)], fun j hj => ?_, ?_⟩
      · have : ids.length = B'.length := by have := congrArg List.length hb; simpa using this
        simp [inR, List.getElem?_eq_none (show ids.length ≤ j by omega)]
      · refine relH_funext (fun j => ?_) (relH_ren p3.heap hnd)
        unfold renH BH
        have := congrArg (fun l => l[j]?) hb
        simp only [List.getElem?_map] at this
        cases hj : ids[j]? with
        | none =>
          rw [hj] at this
          cases hb' : B'[j]? with
          | none => rfl
          | some b => rw [hb'] at this; simp at this
        | some id =>
          rw [hj] at this
          cases hb' : B'[j]? with
          | none => rw [hb'] at this; simp at this
          | some b => rw [hb'] at this; simpa using this
    · simp at h
  · simp at h

/-- an iterator hands xs on, one by one, if all rounds go on -/
def IterOk {α : Type} (P : Program) (gf : FuncId) (lb : Array Value) (enc : α → Value) (xs : List α) (K : World → Prop) : Prop :=
  ∀ (l : Nat) (J : List α → World → Prop), (∀ pre W, J pre W → K W) →
    (∀ pre x rest W, xs = pre ++ x :: rest → J pre W → YieldAt Fence.wide 0 P l #[enc x] W (fun e W' => e = .returned (.bool true) ∧ J (pre ++ [x]) W')) →
    ∀ W, J [] W → CallsIn Fence.wide 0 P gf (#[.func (.yield l) #[] #[]] ++ lb) W (fun e W' => (∃ v, e = .returned v) ∧ J xs W')

def lowId (m : Nat) : Nat → Option Nat := fun j => if j < m then some j else none

theorem rangeFunc_ok {α : Type} {g : Ctx} {nT m : Nat} (hn : nT < 65535) {gop : Operand} {p : Nat} {A Bd : Code} {gf : FuncId} {lb : Array Value} {enc : α → Value} {encS : α → SV} {xs : List α}
    {S : List (Nat × SV)} {Bs : List α → List Body} (hround : ∀ pre x rest, xs = pre ++ x :: rest → RoundOk g nT A Bd ((p, encS x) :: S) (Bs pre) (Bs (pre ++ [x])) m)
    (hden : ∀ x, x ∈ xs → ∀ w0 O ρ, DenV w0 O ρ (encS x) (enc x)) (hS : ∀ y ∈ S, y.1 < 65535 ∧ mapC (lowId m) y.2 = y.2) (hp : p < nT)
    (hG : GlobOk g w0 O) {a : Act} (r : RelA nT w0 O ρ (tget (mkT S)) (BH (Bs [])) Φ a w) (hρ : ∀ j, (Bs []).length ≤ j → ρ j = none)
    (hg : a.eval gop = .func (.func gf) #[] lb) (eg : ∀ args w, (callFunc gf args).run g.P w = .ok (.enter gf args) w)
    {K : World → Prop} (hK : ∀ pre ρ' Φ' W, (∀ j h, j < m → ρ j = some h → ρ' j = some h) → RelH w0 O ρ' (BH (Bs pre)) W Φ' → K W) (hit : IterOk g.P gf lb enc xs K) :
    (Code.rangeFunc gop #[p] A Bd).wpIn Fence.wide 0 g.P (fun e' a' w' => e' = .normal ∧ ∃ D, a' = { a with defers := { target := .collected D, args := #[] } :: a.defers } ∧ w0.heap.size ≤ D ∧ w'.heap[D]? = some (.deferred (some [])) ∧
      ∃ ρ' Φ', (∀ j h, j < m → ρ j = some h → ρ' j = some h) ∧ (∀ j, (Bs xs).length ≤ j → ρ' j = none) ∧ RelH w0 O ρ' (BH (Bs xs)) w' Φ') a w := by
  refine wpIn_rangeFunc ?_
  intro fn hfn
  obtain ⟨rec, hrec⟩ : ∃ rec : LoopState → Option Code → Loop, rec = fun st pe => { state := st, pending := pe, fn, tmps := a.tmps, params := #[p], assign := A, body := Bd, defers := w.heap.size } := ⟨_, rfl⟩
  obtain ⟨W1, hW1⟩ : ∃ W1, (w.alloc (.deferred (some []))).alloc (.loop (rec .ready none)) = W1 := ⟨_, rfl⟩
  have hL1 : W1.heap[w.heap.size + 1]? = some (.loop (rec .ready none)) := by
    rw [← hW1]; have := World.alloc_heap_new (w.alloc (.deferred (some []))) (.loop (rec .ready none)); rwa [World.size_alloc] at this
  have hK1 : W1.heap[w.heap.size]? = some (.deferred (some [])) := by
    rw [← hW1]; exact (heap_alloc_old _ _ (by simp)).trans (World.alloc_heap_new w _)
  have x1 : RelH w0 O ρ (BH (Bs [])) W1 Φ := by rw [← hW1]; exact (r.heap.allocObj rfl).allocObj rfl
  have hsz := r.heap.frame.size
  refine ⟨w.heap.size + 1, [{ target := .collected w.heap.size, args := #[] }], W1, { target := .fn (.func gf) lb, args := #[.func (.yield (w.heap.size + 1)) #[] #[]] }, W1, gf,
    #[.func (.yield (w.heap.size + 1)) #[] #[]] ++ lb, W1, ?_, ?_, fun _ _ => trivial, ?_, fun h => by simp [Fence.wide] at h, ?_⟩
  · rw [← hW1, hrec]; exact run_enterLoop_outer _ _ _ _ _
  · simp only [resolve, hg]
    simp [go_sem]
  · simp [invoke, go_sem, eg]
  · refine (hit (w.heap.size + 1)
      (fun pre W => (∃ ρ' Φ', (∀ j h, j < m → ρ j = some h → ρ' j = some h) ∧ (∀ j, (Bs pre).length ≤ j → ρ' j = none) ∧ RelH w0 O ρ' (BH (Bs pre)) W Φ') ∧ W.heap[w.heap.size + 1]? = some (.loop (rec .ready none)) ∧ W.heap[w.heap.size]? = some (.deferred (some [])))
      (fun pre W ⟨⟨ρ', Φ', q1, _, q3⟩, _⟩ => hK pre ρ' Φ' W q1 q3) ?_ W1 ⟨⟨ρ, Φ, fun _ _ _ h => h, hρ, x1⟩, hL1, hK1⟩).mono ?_
    · rintro pre x rest W hxs ⟨⟨ρ1, Φ1, q1, q2, q3⟩, hl, hk⟩
      have hlt : w.heap.size + 1 < W.heap.size := (Array.getElem?_eq_some_iff.1 hl).1
      have hy := run_yield (P := g.P) (args := #[enc x]) hl (by rw [hrec]; rfl)
      have hy : (Instr.yield (w.heap.size + 1) #[enc x]).run g.P W = .ok (.round (w.heap.size + 1) fn (a.tmps.setIfInBounds p (enc x)) A Bd) W := by rw [hrec] at hy; simpa using hy
      have hdx := hden x (by rw [hxs]; simp)
      have rA : RelA nT w0 O ρ1 (tget (mkT ((p, encS x) :: S))) (BH (Bs pre)) Φ1 { tmps := a.tmps.setIfInBounds p (enc x), defers := [] } W := by
        refine ⟨by simp [r.size], rfl, fun t => ?_, q3⟩
        have e : tget (mkT ((p, encS x) :: S)) t = if t = p then encS x else tget (mkT S) t := Tr.get_set _ _ _ _ _ (by omega)
        rw [e]
        by_cases ht : t = p
        · subst ht
          rw [if_pos rfl]
          have : (a.tmps.setIfInBounds t (enc x)).getD t undef = enc x := by
            have : t < a.tmps.size := by rw [r.size]; exact hp
            simp [this]
          show DenV w0 O ρ1 (encS x) ((a.tmps.setIfInBounds t (enc x)).getD t undef)
          rw [this]; exact hdx _ _ _
        · rw [if_neg ht]
          have : (a.tmps.setIfInBounds p (enc x)).getD t undef = a.tmps.getD t undef := by
            simp [Array.getElem?_setIfInBounds_ne (Ne.symm ht)]
          show DenV w0 O ρ1 (tget (mkT S) t) ((a.tmps.setIfInBounds p (enc x)).getD t undef)
          rw [this]
          have hv := r.tmps t
          rcases tget_mkT S t (fun y hy => (hS y hy).1) with e1 | ⟨y, h1, h2, h3⟩
          · rw [e1]; exact .inl rfl
          · rw [h3] at hv ⊢
            have hv' := denV_map (w0 := w0) (O := O) (ρ := ρ) (ρ1 := ρ1) (f := lowId m) (fun id h j a b => by
              unfold lowId at b
              split at b
              · simp at b; subst b; exact q1 _ _ ‹_› a
              · simp at b) hv
            rwa [(hS y h1).2] at hv'
      refine ⟨fn, _, A, Bd, hy, roundIn_of_wpIn hfn ?_⟩
      have hr := hround pre x rest hxs w0 O hG ρ1 Φ1 _ W (w.heap.size + 1) rA q2 (by omega) ⟨_, hl, rfl⟩
      refine wpIn_mono hr fun e a1 wa h => ?_
      cases e with
      | normal =>
        obtain ⟨hka, hbd⟩ := h
        have hla := hka.same _ _ hl rfl
        have hkaD := hka.same _ _ hk rfl
        have hlta : w.heap.size + 1 < wa.heap.size := (Array.getElem?_eq_some_iff.1 hla).1
        refine ⟨_, run_beginRound hla (by rw [hrec]), ?_⟩
        refine wpIn_mono (hbd _ rfl) fun e2 a2 w2 ⟨he2, hk2, ρ2, Φ2, p1, p2, p3⟩ => ?_
        subst he2
        have hl2 := hk2.same _ _ (World.putObj_heap_same hlta) rfl
        have hD2 := hk2.same _ _ ((World.putObj_heap_other (by omega)).trans hkaD) rfl
        have hend := run_endRound (P := g.P) none hl2
        rw [hrec] at hend
        refine ⟨_, _, hend, rfl, ⟨ρ2, Φ2, fun j h hj hh => p1 j h hj (q1 j h hj hh), p2, p3.putObj (by omega) hl2 rfl rfl⟩, ?_, ?_⟩
        · rw [World.putObj_heap_same (Array.getElem?_eq_some_iff.1 hl2).1, hrec]; rfl
        · exact (World.putObj_heap_other (by omega)).trans hD2
      | exit id => exact h.elim
      | goto id => exact h.elim
      | ret => exact h.elim
      | panic c => exact h.elim
      | outgrown => exact h.elim
    · rintro e W2 ⟨⟨v, rfl⟩, ⟨ρ2, Φ2, p1, p2, p3⟩, hl, hk⟩
      have hend := run_endLoop (P := g.P) hl (by rw [hrec]; simp)
      rw [hrec] at hend
      exact ⟨none, _, hend, rfl, w.heap.size, rfl, hsz, (World.putObj_heap_other (by omega)).trans hk, ρ2, Φ2, p1, p2, p3.putObj (by omega) hl rfl rfl⟩
end
end Go.Vx

/- A function that ranges over a function once. -/
namespace Go.Vx
open Go

/-- beside other deferred calls -/
def withD (ds ds' : List Deferred) (Q : Exit → Act → World → Prop) : Exit → Act → World → Prop := fun e a' w' => ∃ pre, a'.defers = pre ++ ds ∧ Q e { a' with defers := pre ++ ds' } w'
theorem put_defers (a : Act) (dst : Option Tmp) (v : Value) (ds : List Deferred) : ({ a with defers := ds } : Act).put dst v = { a.put dst v with defers := ds } := by cases dst <;> rfl
theorem put_defers' (a : Act) (dst : Option Tmp) (v : Value) : (a.put dst v).defers = a.defers := by cases dst <;> rfl
theorem wpOps_defers {P : Program} {ops : Array Oper} {Q : Exit → Act → World → Prop} (hQ : ¬ LetsOut Q) (ds ds' : List Deferred) : ∀ (s : List Nat) (a : Act) (w : World) (pre : List Deferred), a.defers = pre ++ ds' →
    wpOps P ops Q s a w → wpOps P ops (withD ds ds' Q) s { a with defers := pre ++ ds } w
  | [], a, w, pre, ha, h => ⟨pre, rfl, by
    have h : Q .normal a w := h
    have e : a = { a with defers := pre ++ ds' } := by rw [← ha]
    rw [e] at h; exact h⟩
  | i :: s, a, w, pre, ha, h => by
    simp only [wpOps] at h ⊢
    cases ho : ops[i]? with
    | none => rw [ho] at h; exact wpOps_defers hQ ds ds' s a w pre ha h
    | some o =>
      rw [ho] at h
      simp only at h ⊢
      have hput : ∀ v w', wpOps P ops Q s (a.put o.dst v) w' → wpOps P ops (withD ds ds' Q) s (({ a with defers := pre ++ ds } : Act).put o.dst v) w' := fun v w' h => by
        rw [put_defers]; exact wpOps_defers hQ ds ds' s _ _ pre ((put_defers' a o.dst v).trans ha) h
      split at h
      · rename_i hw
        rw [if_pos hw]
        rcases h with h | ⟨_, h⟩
        · left
          unfold Oper.wp at h ⊢
          rw [show (execOp ({ a with defers := pre ++ ds } : Act).eval o) = execOp a.eval o from rfl]
          generalize hrr : (execOp a.eval o).run P w = r at h
          unfold Oper.upon at h ⊢
          split at h
          · exact hput _ _ h
          · exact hput _ _ h
          · rename_i d w'
            show wpOps P ops (withD ds ds' Q) s (({ a with defers := d :: (pre ++ ds) } : Act).put o.dst undef) w'
            rw [put_defers] at h ⊢
            have := wpOps_defers hQ ds ds' s _ w' (d :: pre) (by simp [ha]) h
            simpa using this
          · refine Calls.mono h fun e w' he => ?_
            cases e with
            | returned v => exact hput _ _ he
            | panicked c => exact ⟨pre, rfl, by
                have e : a = { a with defers := pre ++ ds' } := by rw [← ha]
                have he : Q (.panic c) a w' := he
                rw [e] at he; exact he⟩
            | outgrown => exact absurd he hQ
          · intro c cs
            obtain ⟨v, w', hh, hs⟩ := h c cs
            exact ⟨v, w', hput _ _ hh, hs⟩
          · exact ⟨pre, rfl, by
                have e : a = { a with defers := pre ++ ds' } := by rw [← ha]
                rw [e] at h; exact h⟩
          · exact h.elim
        · exact absurd h hQ
      · rename_i hw
        rw [if_neg hw]
        exact hput _ _ h

section
variable {w0 : World} {O : Own} {nT : Nat}
/-- a region, in the text's order, beside other deferred calls -/
theorem region_defers {g : Ctx} (hc : CtxOk g w0 O) {n : Nat} {pl : List Plan} {id : Nat} {ops : Array Oper} {T : Tmps} {H : Heap} {o : Out} (hn : nT < 65535) (h : exec g (LoopGood g) (n + 1) nT pl (.region id ops false) T H = some o) (hC : AllC o.C)
    {ρ : Rho} {Φ : Nat → Foot} {a : Act} {w : World} (x : RelA nT w0 O ρ (tget T) (hget H) Φ a w) (hf : ∀ id, H.nx ≤ id → id < o.H.nx → ρ id = none) (ds : List Deferred) :
    o.e = .normal ∧ H.nx ≤ o.H.nx ∧ (Code.region id ops false).wp g.P (fun e' a' w' => e' = .normal ∧ a'.defers = ds ∧ Done nT w0 O ρ (tget o.T) (hget o.H) H.nx o.H.nx { a' with defers := [] } w') { a with defers := ds } w := by
  unfold exec at h
  have hK := callOf_ok hc (exec_ok hc n)
  simp only at h
  split at h
  · simp at h
  · rename_i hsh
    split at h
    · rename_i s hs
      simp only [Option.some.injEq] at h; subst h
      obtain ⟨_, S, pp, d, r, e1, e2⟩ := run_ok hc.glob hc.sums hK hn hsh hs hC
      have eT : (S 0).T = T := by rw [e1]
      have eH : (S 0).H = H := by rw [e1]
      have hnx := r.nx_le (Nat.zero_le ops.size) (Nat.le_refl _)
      rw [eH, e2] at hnx
      refine ⟨rfl, hnx, ?_⟩
      have hQ : ∀ a' w', Done nT w0 O ρ (tget (S ops.size).T) (hget (S ops.size).H) (S 0).H.nx (S ops.size).H.nx a' w' →
          (fun e' a' w' => e' = Exit.normal ∧ Done nT w0 O ρ (tget s.T) (hget s.H) H.nx s.H.nx a' w') Exit.normal a' w' := fun a' w' h => by
        rw [e2, eH] at h; exact ⟨rfl, h⟩
      have h1 : wpOps g.P ops (fun e' a' w' => e' = Exit.normal ∧ Done nT w0 O ρ (tget s.T) (hget s.H) H.nx s.H.nx a' w') (List.range ops.size) a w := by
        rw [List.range_eq_range']
        exact r.text hQ ops.size 0 (by omega) ρ Φ a w (Ext.refl ρ) (fun _ h => absurd rfl h) (by rw [eT, eH]; exact x) (by rw [eH, e2]; exact hf)
      have h2 := wpOps_defers (fun h => by obtain ⟨_, _, h, _⟩ := h; cases h) ds [] _ _ _ [] (by simpa using x.defers) h1
      refine wp_mono (wp_region h2) fun e a' w' ⟨pre, p1, p2, p3⟩ => ⟨p2, ?_⟩
      have hp : pre = [] := by
        obtain ⟨_, _, _, _, q⟩ := p3
        simpa using q.defers
      subst hp
      exact ⟨by simpa using p1, by simpa using p3⟩
    · simp at h
end

/-! ### the function -/
noncomputable def runP (g : Ctx) (n nT : Nat) (pl : List Plan) (c0 c1 c2 : Code) (args : List SV) (B : List Body) (keep ids : List Nat) : Option (List SV × List (Option Body) × List Prop) :=
  match exec g (LoopGood g) n nT pl c0 (entryT args 0) (mkB B) with
  | some ⟨.normal, T1, H1, pl1, C1⟩ => match exec g (LoopGood g) n nT pl1 c1 T1 H1 with
    | some ⟨.normal, T2, H2, pl2, C2⟩ => match exec g (LoopGood g) n nT pl2 c2 T2 H2 with
      | some ⟨.normal, T3, H3, _, C3⟩ => some (keep.map fun t => mapC (idx ids) (tget T3 t), ids.map fun id => (hget H3 id).map (mapB (idx ids)), C1 ++ (C2 ++ C3))
      | _ => none
    | _ => none
  | _ => none
noncomputable def runE (g : Ctx) (n nT : Nat) (i : Nat) (ops : Array Oper) (S : List (Nat × SV)) (B : List Body) (t : Nat) (ids : List Nat) : Option (SV × List (Option Body) × List Prop) :=
  match exec g (LoopGood g) (n + 1) nT [] (.region i ops false) (mkT S) (mkB B) with
  | some ⟨_, T, H, _, C⟩ => some (mapC (idx ids) (tget T t), ids.map fun id => (hget H id).map (mapB (idx ids)), C)
  | none => none

section
variable {w0 : World} {O : Own}
theorem ids_body {H : Nat → Option Body} {ids : List Nat} {B' : List Body} (hb : ids.map (fun id => (H id).map (mapB (idx ids))) = B'.map some) : ids.length = B'.length ∧ ∀ j, renH H ids j = BH B' j := by
  refine ⟨by have := congrArg List.length hb; simpa using this, fun j => ?_⟩
  unfold renH BH
  have := congrArg (fun l => l[j]?) hb
  simp only [List.getElem?_map] at this
  cases hj : ids[j]? with
  | none =>
    rw [hj] at this
    cases hb' : B'[j]? with
    | none => rfl
    | some b => rw [hb'] at this; simp at this
  | some id =>
    rw [hj] at this
    cases hb' : B'[j]? with
    | none => rw [hb'] at this; simp at this
    | some b => rw [hb'] at this; simpa using this

/-- S's slots name low chunks alone -/
theorem relA_low {nT m : Nat} {S : List (Nat × SV)} {B B' : List Body} {ρ ρ' : Rho} {Φ Φ' : Nat → Foot} {a : Act} {w w' : World} (hS : ∀ y ∈ S, y.1 < 65535 ∧ mapC (lowId m) y.2 = y.2) (r : RelA nT w0 O ρ (tget (mkT S)) (BH B) Φ a w)
    (h : ∀ j h, j < m → ρ j = some h → ρ' j = some h) (x : RelH w0 O ρ' (BH B') w' Φ') : RelA nT w0 O ρ' (tget (mkT S)) (BH B') Φ' a w' := by
  refine ⟨r.size, r.defers, fun t => ?_, x⟩
  have hv := r.tmps t
  rcases tget_mkT S t (fun y hy => (hS y hy).1) with e1 | ⟨y, h1, h2, h3⟩
  · rw [e1]; exact .inl rfl
  · rw [h3] at hv ⊢
    have hv' := denV_map (w0 := w0) (O := O) (ρ := ρ) (ρ1 := ρ') (f := lowId m) (fun id hd j a b => by
      unfold lowId at b
      split at b
      · simp at b; subst b; exact h _ _ ‹_› a
      · simp at b) hv
    rwa [(hS y h1).2] at hv'

theorem rangeFn_ok {α : Type} {g : Ctx} (hU : CtxU g) {f : FuncId} {fn : Func} {c0 c1 c2 : Code} {gop : Operand} {p k i t : Nat} {A Bd : Code} {ops : Array Oper} (hf : g.P.funcs[f]? = some fn) (hname : (fn.name == "runtime.NumGoroutine") = false)
    (hb : fn.body = some (.seq c0 (.seq c1 (.seq (.seq c2 (.block k (.rangeFunc gop #[p] A Bd))) (.seq (.region i ops false) .ret))))) (hn : fn.ntmps < 65535) (hres : fn.results = #[.tmp t]) (hp : p < fn.ntmps)
    {args : List SV} {B : List Body} (hargs : args.length ≤ fn.ntmps) (hB : B.length < 65535)
    {n : Nat} {pl : List Plan} {keep ids : List Nat} {vals : List SV} {C : List Prop} {gf : FuncId} {enc : α → Value} {encS : α → SV} {xs : List α} {Bs : List α → List Body} {m : Nat} {S : List (Nat × SV)}
    (hpre : runP g n fn.ntmps pl c0 c1 c2 args B keep ids = some (vals, (Bs []).map some, C)) (hC : AllC C) (hnd : ids.Nodup) (hm : ∀ j, j < m → j < B.length → ids[j]? = some j) (hmB : B.length ≤ m) (hk : ∀ k ∈ keep, k < 65535)
    (hSub : ∀ t, tget (mkT S) t = tget (mkT (keep.zip vals)) t ∨ tget (mkT S) t = .any)
    (hround : ∀ pre x rest, xs = pre ++ x :: rest → RoundOk g fn.ntmps A Bd ((p, encS x) :: S) (Bs pre) (Bs (pre ++ [x])) m)
    (hden : ∀ x, x ∈ xs → ∀ w0 O ρ, DenV w0 O ρ (encS x) (enc x)) (hS : ∀ y ∈ S, y.1 < 65535 ∧ mapC (lowId m) y.2 = y.2)
    (eg : ∀ args w, (callFunc gf args).run g.P w = .ok (.enter gf args) w)
    (hK : ∀ w0 O, GlobOk g w0 O → ∀ ρ Φ a w, RelA fn.ntmps w0 O ρ (tget (mkT (keep.zip vals))) (BH (Bs [])) Φ a w → ∃ lb, a.eval gop = .func (.func gf) #[] lb ∧ ∃ K : World → Prop,
      (∀ pre ρ' Φ' W, (∀ j h, j < m → ρ j = some h → ρ' j = some h) → RelH w0 O ρ' (BH (Bs pre)) W Φ' → K W) ∧ IterOk g.P gf lb enc xs K)
    {n2 : Nat} {ids2 : List Nat} {out : OpOut} {L : List (Option Body)} {C2 : List Prop} (hB2 : (Bs xs).length < 65535) (hpost : runE g n2 fn.ntmps i ops S (Bs xs) t ids2 = some (out.val, L, C2)) (hC2 : AllC C2) (hnd2 : ids2.Nodup) (hm2 : ∀ j, j < B.length → ids2[j]? = some j)
    (hl2 : ids2.length = B.length + out.new.length) (hL : ∀ j, j < B.length + out.new.length → (L[j]?).getD none = afterH B out j) (hu : ∀ y ∈ out.upd, y.1 < B.length) :
    FnOk g f args B out := by
  intro w0 O hG ρ Φ vs w hd x hr
  refine .inl ⟨fn, hf, hname, by rw [hb]; rfl, ?_⟩
  unfold runP at hpre
  split at hpre
  · rename_i T1 H1 pl1 C1 h1
    split at hpre
    · rename_i T2 H2 pl2 C2' h2
      split at hpre
      · rename_i T3 H3 pl3 C3 h3
        simp only [Option.some.injEq, Prod.mk.injEq] at hpre
        obtain ⟨hv, hbs, rfl⟩ := hpre
        obtain ⟨k1, k23⟩ := hC.append
        obtain ⟨k2, k3⟩ := k23.append
        have s1 := exec_ok (hU w0 O hG) n _ _ _ _ _ _ hn h1 k1
        have s2 := exec_ok (hU w0 O hG) n _ _ _ _ _ _ hn h2 k2
        have s3 := exec_ok (hU w0 O hG) n _ _ _ _ _ _ hn h3 k3
        have x' := x
        rw [← hget_mkB hB] at x'
        have hr0 : ∀ id, (mkB B).nx ≤ id → ρ id = none := fun id h => hr id h
        refine callsIn_wide (n := 0) |>.1 ?_
        refine callsIn_of_wp_marks hf hb trivial ?_ rfl
        refine wpIn_wide.2 ?_
        have s123 := Sim.seq s1 (Sim.seq s2 s3)
        have hrel := entry_rel hn hargs hd x'
        refine wp_seq (wp_mono (wpL_wp (s1.2 ρ Φ _ w hrel fun id h _ => hr0 id h)) fun e a1 w1 ⟨he, ρ1, Φ1, p1, p2, p3⟩ => ?_)
        subst he
        have hr1 : ∀ id, H1.nx ≤ id → ρ1 id = none := fun id h => by
          by_cases e : ρ1 id = ρ id
          · rw [e]; exact hr0 id (Nat.le_trans s1.1 h)
          · have : id < H1.nx := (p2 id e).2; omega
        refine wp_seq (wp_mono (wpL_wp (s2.2 ρ1 Φ1 a1 w1 p3 fun id h _ => hr1 id h)) fun e a2 w2 ⟨he, ρ2, Φ2, q1, q2, q3⟩ => ?_)
        subst he
        have hr2 : ∀ id, H2.nx ≤ id → ρ2 id = none := fun id h => by
          by_cases e : ρ2 id = ρ1 id
          · rw [e]; exact hr1 id (Nat.le_trans s2.1 h)
          · have : id < H2.nx := (q2 id e).2; omega
        refine wp_seq (wp_seq (wp_mono (wpL_wp (s3.2 ρ2 Φ2 a2 w2 q3 fun id h _ => hr2 id h)) fun e a3 w3 ⟨he, ρ3, Φ3, u1, u2, u3⟩ => ?_))
        subst he
        obtain ⟨hlb, hbody⟩ := ids_body hbs
        -- the chunks under 0, 1, ..
        have r4 : RelA fn.ntmps w0 O (inR ρ3 ids) (tget (mkT (keep.zip vals))) (BH (Bs [])) (inF Φ3 ids) a3 w3 := by
          refine ⟨u3.size, u3.defers, fun t => ?_, relH_funext hbody (relH_ren u3.heap hnd)⟩
          have hz : ∀ y ∈ keep.zip vals, y.1 < 65535 ∧ y.2 = mapC (idx ids) (tget T3 y.1) := fun y hy => by
            rw [← hv] at hy
            rw [List.mem_iff_getElem?] at hy
            obtain ⟨i, hi⟩ := hy
            rw [List.getElem?_zip_eq_some] at hi
            obtain ⟨i1, i2⟩ := hi
            refine ⟨hk _ (List.mem_of_getElem? i1), ?_⟩
            rw [List.getElem?_map, i1] at i2
            simpa using i2.symm
          rcases tget_mkT _ t fun y hy => (hz y hy).1 with e | ⟨y, h1, h2, h3⟩
          · rw [e]; exact .inl rfl
          · rw [h3, (hz y h1).2, h2]
            exact denV_map (inR_idx ρ3 ids) (u3.tmps t)
        obtain ⟨lb, hg, K, hKK, hit⟩ := hK w0 O hG _ _ _ _ r4
        have r5 := r4.sub hSub
        have hfr : ∀ j, (Bs []).length ≤ j → inR ρ3 ids j = none := fun j hj => by simp [inR, List.getElem?_eq_none (show ids.length ≤ j by omega)]
        refine wp_block ((wpIn_wide (n := 0)).1 (wpIn_mono (rangeFunc_ok hn hround hden hS hp hG r5 hfr hg eg hKK hit) fun e a4 w4 ⟨he, D, ha4, hD0, hD, ρ4, Φ4, v1, v2, v3⟩ => ?_))
        subst he
        have r6 : RelA fn.ntmps w0 O ρ4 (tget (mkT S)) (BH (Bs xs)) Φ4 a3 w4 := relA_low hS r5 v1 v3
        unfold runE at hpost
        split at hpost
        · rename_i e5 T5 H5 pl5 C5 h5
          simp only [Option.some.injEq, Prod.mk.injEq] at hpost
          obtain ⟨hval, hLL, rfl⟩ := hpost
          have r7 := r6
          rw [← hget_mkB hB2] at r7
          have ha4' : a4 = { a3 with defers := [{ target := .collected D, args := #[] }] } := by rw [ha4, r4.defers]
          subst ha4'
          have r8 : RelA fn.ntmps w4 (baseO O (hget (mkB (Bs xs))) Φ4) ρ4 (tget (mkT S)) (hget (mkB (Bs xs))) Φ4 a3 w4 :=
            ⟨r7.size, r7.defers, fun t => denV_cong (w0 := w0) (O := O) (O1 := baseO O (hget (mkB (Bs xs))) Φ4) rfl (r7.tmps t), r7.heap.base⟩
          obtain ⟨z1, z2, z3⟩ := region_defers (hU w4 (baseO O (hget (mkB (Bs xs))) Φ4) (glob_cong (O := O) rfl hG)) hn h5 hC2 r8 (fun id h _ => v2 id h) [{ target := .collected D, args := #[] }]
          refine wp_seq (wp_mono z3 fun e a5 w5 ⟨he, hd5, ρ5, Φ5, y1, y2, y3⟩ => ?_)
          subst he
          refine wp_ret ?_
          have hD5 := y3.heap.frame.others.same D _ hD rfl
          have x5 := r7.heap.back y3.heap
          have x6 := x5.putObj (o' := .deferred none) hD0 hD5 rfl rfl
          show LeavesInM Fence.wide 0 g.P fn a5.tmps _ a5.defers .returning w5
          rw [hd5]
          refine ⟨by simp, .inl ⟨D, _, rfl, run_takeDeferred hD5, ?_⟩⟩
          refine ⟨a5.tmps.getD t undef, results_tmp hres _ _ _, _, rfl, inR ρ5 ids2, inF Φ5 ids2, ?_, fun j h hh => ?_, fun j hj => ?_, ?_⟩
          · rw [← hval]
            exact denV_map (inR_idx ρ5 ids2) (denV_cong (w0 := w4) (O := baseO O (hget (mkB (Bs xs))) Φ4) (O1 := O) rfl (y3.tmps t))
          · by_cases hj : j < B.length
            · simp only [inR, hm2 j hj, Option.bind_some]
              exact y1 j h (v1 j h (by omega) (by simp only [inR, hm j (by omega) hj, Option.bind_some]; exact u1 _ _ (q1 _ _ (p1 _ _ hh))))
            · rw [hr j (by omega)] at hh; simp at hh
          · simp [inR, List.getElem?_eq_none (show ids2.length ≤ j by omega)]
          · refine relH_funext (fun j => ?_) (relH_ren x6 hnd2)
            rcases Nat.lt_or_ge j ids2.length with hj | hj
            · rw [← hL j (by omega), ← hLL, List.getElem?_map]
              unfold renH
              rw [List.getElem?_eq_getElem hj]; simp
            · unfold renH afterH newH
              rw [List.getElem?_eq_none hj, newAll_get, if_neg (by omega)]
              simp only [Option.bind_none, Option.map_none]
              rw [updAll_far out.upd (BH B) (fun y hy => by have := hu y hy; omega)]
              simp [BH, List.getElem?_eq_none (show B.length ≤ j by omega)]
        · simp at hpost
      · simp at hpre
    · simp at hpre
  · simp at hpre
end
end Go.Vx

/- Events: all that a Recorder has logged. -/
namespace Go.Vx
open Go

/-- the parts of a function that ranges over a function once -/
structure RParts where
  c0 : Code
  c1 : Code
  c2 : Code
  k : Nat
  g : Operand
  p : Nat
  A : Code
  Bd : Code
  i : Nat
  ops : Array Oper
def rparts (c : Option Code) : RParts :=
  match c with
  | some (.seq c0 (.seq c1 (.seq (.seq c2 (.block k (.rangeFunc g ps A Bd))) (.seq (.region i ops _) _)))) => ⟨c0, c1, c2, k, g, ps.getD 0 0, A, Bd, i, ops⟩
  | _ => ⟨.skip, .skip, .skip, 0, .tmp 0, 0, .skip, .skip, 0, #[]⟩
def RParts.code (r : RParts) : Code := .seq r.c0 (.seq r.c1 (.seq (.seq r.c2 (.block r.k (.rangeFunc r.g #[r.p] r.A r.Bd))) (.seq (.region r.i r.ops false) .ret)))

section
variable {w0 : World} {O : Own} {ρ : Rho} {w : World} {H : Nat → Option Body} {Φ : Nat → Foot}

/-- one that leaves the log as it is, and hands back rows of its own -/
theorem FnOk.logRows {g : Ctx} {f : FuncId} {args : List SV} {l : List (List Int)} {ks : List IntKind} {l' : List (List Int)} {C : List Prop}
    (h : FnOk g f args [.cells [.int .i64 l.length, .own 1], .rows [.i64, .i64] l] { val := .own 2, new := [.rows ks l'] }) : FnOk g f args [.log l] { val := .own 1, new := [.rows ks l'], C } := by
  intro w0 O hG ρ Φ vs w d x hr
  have h1 : ρ 1 = none := hr 1 (by simp)
  obtain ⟨loc, len, cap, Φ1, x1⟩ := x.unlog (id := 0) (k := 1) (l := l) rfl h1
  obtain ⟨hd, hr0, hh⟩ := x.holds 0 (.log l) rfl
  obtain ⟨b, base, rfl, _⟩ := holds_log hh
  have x1 := relH_funext (H' := BH [.cells [.int .i64 l.length, .own 1], .rows [.i64, .i64] l]) (fun j => by
    match j with
    | 0 => rfl
    | 1 => rfl
    | j + 2 => simp [upH, BH]) x1
  have hext : Ext ρ (upR ρ 1 (.sl loc len cap)) := Ext.up h1 _
  refine (h w0 O hG _ Φ1 vs w (DenT.mono hext _ _ d) x1 (fun j hj => by
    simp at hj; simp [upR, show j ≠ 1 by omega]; exact hr j (by simp; omega))).mono fun u w' ⟨ρ2, Φ2, q1, q2, q3, q4⟩ => ?_
  have hr2 : ρ2 0 = some (.at b base) := q2 0 _ (hext 0 _ hr0)
  have x2 := q4.tolog (id := 0) (k := 1) (l := l) rfl rfl hr2
  refine ⟨inR ρ2 [0, 2], _, ?_, fun j hd hj => ?_, fun j hj => ?_, relH_funext (fun j => ?_) (relH_ren x2 (ids := [0, 2]) (by simp))⟩
  · have := denV_map (w0 := w0) (O := O) (inR_idx ρ2 [0, 2]) q1
    simpa [mapC, idx, idxF] using this
  · by_cases e : j = 0
    · subst e; simp [inR, q2 0 _ (hext 0 _ hj)]
    · rw [hr j (by simp; omega)] at hj; simp at hj
  · simp at hj
    simp [inR, List.getElem?_eq_none (show ([0, 2] : List Nat).length ≤ j by simpa using hj)]
  · match j with
    | 0 => simp [renH, upH, afterH, newH, newAll, updAll, mapB, BH]
    | 1 => simp [renH, upH, afterH, newH, newAll, updAll, mapB, BH]
    | j + 2 => simp [renH, upH, afterH, newH, newAll, updAll, BH]

def evV (r : List Int) : Value := .agg #[.int .i64 (r.getD 0 0), .int .i64 (r.getD 1 0)]
def evS (r : List Int) : SV := .agg [.int .i64 (r.getD 0 0), .int .i64 (r.getD 1 0)]
/-- the Recorder's log, as the iterator sees it -/
structure LogK (bR oR bN oN b base : Nat) (b1 o1 cap : Nat) (xs : List (List Int)) (W : World) : Prop where
  r : W.cell? ⟨bR, oR, none⟩ = some (.pointer (some ⟨b, base, none⟩))
  n : W.cell? ⟨bN, oN, none⟩ = some (.int .i64 0)
  s : W.cell? ⟨b, base + 1, none⟩ = some (.slice (some ⟨b1, o1, none⟩) xs.length cap)
  c0 : ∀ j, j < xs.length → W.cell? ⟨b1, o1 + j * 2, none⟩ = some (.int .i64 ((xs.getD j []).getD 0 0))
  c1 : ∀ j, j < xs.length → W.cell? ⟨b1, o1 + j * 2 + 1, none⟩ = some (.int .i64 ((xs.getD j []).getD 1 0))
/-- .. that has none -/
structure LogN (bR oR bN oN b base : Nat) (W : World) : Prop where
  r : W.cell? ⟨bR, oR, none⟩ = some (.pointer (some ⟨b, base, none⟩))
  n : W.cell? ⟨bN, oN, none⟩ = some (.int .i64 0)
  s : W.cell? ⟨b, base + 1, none⟩ = some (.slice none 0 0)
/-- a closure that goes through the events -/
structure SinceOk (P : Program) (gf : FuncId) : Prop where
  has : ∀ (bR oR bN oN b base b1 o1 cap : Nat) (xs : List (List Int)), xs.length ≤ 9223372036854775807 → IterOk P gf #[.pointer (some ⟨bR, oR, none⟩), .pointer (some ⟨bN, oN, none⟩)] evV xs (LogK bR oR bN oN b base b1 o1 cap xs)
  non : ∀ (bR oR bN oN b base : Nat), IterOk P gf #[.pointer (some ⟨bR, oR, none⟩), .pointer (some ⟨bN, oN, none⟩)] evV [] (LogN bR oR bN oN b base)

theorem holdsC {cs : List SV} {id : Nat} (x : RelH w0 O ρ H w Φ) (hb : H id = some (.cells cs)) {b base : Nat} (hr : ρ id = some (.at b base)) : CellsAt w0 O ρ w b base cs := by
  obtain ⟨hd, h1, h2⟩ := x.holds id _ hb
  rw [hr] at h1; cases h1
  exact h2.2.2
theorem ptrD {id off : Nat} {v : Value} (h : DenV w0 O ρ (.ptr id off) v) : ∃ hd b base, ρ id = some hd ∧ hd.loc = some (b, base) ∧ v = .pointer (some ⟨b, base + off, none⟩) := by
  have h := (denV_cell h (by simp) rfl).1
  simp only [DenC] at h
  obtain ⟨hd, b, base, h1, h2, h3⟩ := h
  simp at h3; exact ⟨hd, b, base, h1, h2, h3⟩
/-- cells by a pointer's chunk -/
theorem hd_cells {cs : List SV} {id : Nat} (x : RelH w0 O ρ H w Φ) (hb : H id = some (.cells cs)) {hd : Hd} (hr : ρ id = some hd) {b base : Nat} (hl : hd.loc = some (b, base)) : CellsAt w0 O ρ w b base cs := by
  obtain ⟨hd', h1, h2⟩ := x.holds id _ hb
  rw [hr] at h1; cases h1
  cases hd with
  | «at» b' base' => simp only [Hd.loc, Option.some.injEq, Prod.mk.injEq] at hl; obtain ⟨rfl, rfl⟩ := hl; exact h2.2.2
  | sl loc len cap => exact h2.elim

def evB (n : Int) (l : List (List Int)) (pre : List (List Int)) : List Body :=
  [.cells [.int .i64 n, .own 1], .rows [.i64, .i64] l, .cells [.ptr 0 0], .cells [.lit .i64 0], .cells [.own 5], .rows [.i64, .i64] pre]

theorem rows_cell {l : List (List Int)} (h : ∀ r ∈ l, r.length = 2) {j : Nat} (hj : j < l.length) :
    (cellsOf (.rows [.i64, .i64] l))[j * 2]? = some (.int .i64 ((l.getD j []).getD 0 0)) ∧ (cellsOf (.rows [.i64, .i64] l))[j * 2 + 1]? = some (.int .i64 ((l.getD j []).getD 1 0)) := by
  have hlen : ∀ r ∈ l.map (fun r => List.zipWith SV.int [.i64, .i64] r), r.length = 2 := fun r hr => by
    obtain ⟨x, hx, rfl⟩ := List.mem_map.1 hr
    simp [h x hx]
  have hx := h l[j] (List.getElem_mem hj)
  obtain ⟨a, b, e⟩ : ∃ a b, l[j] = [a, b] := by
    match hl : l[j], hx with
    | [a, b], _ => exact ⟨a, b, rfl⟩
  have e1 := flat_get _ 2 j 0 hlen (by omega)
  have e2 := flat_get _ 2 j 1 hlen (by omega)
  simp only [cellsOf]
  refine ⟨?_, ?_⟩
  · rw [← Nat.add_zero (j * 2), e1]; simp [hj, e]
  · rw [e2]; simp [hj, e]

theorem func_den {f : FuncId} {cap : List SV} {v : Value} (h : DenV w0 O ρ (.func f [] cap) v) : ∃ c : Array Value, v = .func (.func f) #[] c ∧ DenT w0 O ρ cap c.toList := by
  have h := (denV_cell h (by simp) rfl).1
  simp only [DenC, DenT] at h
  obtain ⟨a, c, h1, h2, h3⟩ := h
  simp at h1
  have : a = #[] := by simpa using h2
  subst this
  exact ⟨c, h1, h3⟩

/-- what the iterator sees of it stands -/
theorem logK_of {n : Int} {l : List (List Int)} {ρ' : Rho} {Φ' : Nat → Foot} {W : World} (x : RelH w0 O ρ' H W Φ') (b0 : H 0 = some (.cells [.int .i64 n, .own 1])) (hb1 : H 1 = some (.rows [.i64, .i64] l)) (b2' : H 2 = some (.cells [.ptr 0 0])) (b3' : H 3 = some (.cells [.lit .i64 0])) {h2 h3 h0 : Hd} {bR oR bN oN b base b1 o1 len cap : Nat} (r2 : ρ' 2 = some h2) (l2 : h2.loc = some (bR, oR)) (r3 : ρ' 3 = some h3) (l3 : h3.loc = some (bN, oN))
    (r0 : ρ' 0 = some h0) (l0 : h0.loc = some (b, base)) (r1 : ρ' 1 = some (.sl (some (b1, o1)) len cap)) (hl : ∀ r ∈ l, r.length = 2) : LogK bR (oR + 0) bN (oN + 0) b base b1 o1 cap l W := by
  have c2 := hd_cells x (id := 2) (cs := [.ptr 0 0]) b2' r2 l2 0 _ rfl
  have c3 := hd_cells x (id := 3) (cs := [.lit .i64 0]) b3' r3 l3 0 _ rfl
  have c0 := hd_cells x (id := 0) (cs := [.int .i64 n, .own 1]) b0 r0 l0 1 _ rfl
  obtain ⟨v2, a1, a2, _⟩ := c2
  obtain ⟨v3, b1', b2, _⟩ := c3
  obtain ⟨v0, d1, d2, _⟩ := c0
  obtain ⟨hd', e1, e2⟩ := x.holds 1 (.rows [.i64, .i64] l) hb1
  rw [r1] at e1; cases e1
  obtain ⟨g1, _, _, g4⟩ := e2
  simp only [DenC] at a2 b2 d2
  obtain ⟨hh, q1, q2, q3, q4, q5⟩ := a2
  rw [r0] at q3; cases q3
  rw [l0] at q4; cases q4
  simp at q5; subst q5
  obtain ⟨q5, _⟩ := b2
  simp at q5; subst q5
  obtain ⟨loc, len', cap', p1, p2⟩ := d2
  rw [r1] at p1; cases p1
  simp at p2; subst p2
  have hlen : len = l.length := g1
  subst hlen
  refine ⟨a1, b1', d1, fun j hj => ?_, fun j hj => ?_⟩
  · obtain ⟨v, u1, u2, _⟩ := g4.2.1 (j * 2) _ (rows_cell hl hj).1
    simp only [DenC] at u2
    obtain ⟨u2, _⟩ := u2
    simp at u2; subst u2; simpa [adr] using u1
  · obtain ⟨v, u1, u2, _⟩ := g4.2.1 (j * 2 + 1) _ (rows_cell hl hj).2
    simp only [DenC] at u2
    obtain ⟨u2, _⟩ := u2
    simp at u2; subst u2; simpa [adr, Nat.add_assoc] using u1

theorem logN_of {n : Int} {l : List (List Int)} {ρ' : Rho} {Φ' : Nat → Foot} {W : World} (x : RelH w0 O ρ' H W Φ') (b0 : H 0 = some (.cells [.int .i64 n, .own 1])) (hb1 : H 1 = some (.rows [.i64, .i64] l)) (b2' : H 2 = some (.cells [.ptr 0 0])) (b3' : H 3 = some (.cells [.lit .i64 0])) {h2 h3 h0 : Hd} {bR oR bN oN b base len cap : Nat} (r2 : ρ' 2 = some h2) (l2 : h2.loc = some (bR, oR)) (r3 : ρ' 3 = some h3) (l3 : h3.loc = some (bN, oN))
    (r0 : ρ' 0 = some h0) (l0 : h0.loc = some (b, base)) (r1 : ρ' 1 = some (.sl none len cap)) : l = [] ∧ LogN bR (oR + 0) bN (oN + 0) b base W := by
  have c2 := hd_cells x (id := 2) (cs := [.ptr 0 0]) b2' r2 l2 0 _ rfl
  have c3 := hd_cells x (id := 3) (cs := [.lit .i64 0]) b3' r3 l3 0 _ rfl
  have c0 := hd_cells x (id := 0) (cs := [.int .i64 n, .own 1]) b0 r0 l0 1 _ rfl
  obtain ⟨v2, a1, a2, _⟩ := c2
  obtain ⟨v3, b1', b2, _⟩ := c3
  obtain ⟨v0, d1, d2, _⟩ := c0
  obtain ⟨hd', e1, e2⟩ := x.holds 1 (.rows [.i64, .i64] l) hb1
  rw [r1] at e1; cases e1
  obtain ⟨g1, g2, _, g4⟩ := e2
  simp only [DenC] at a2 b2 d2
  obtain ⟨hh, q1, q2, q3, q4, q5⟩ := a2
  rw [r0] at q3; cases q3
  rw [l0] at q4; cases q4
  simp at q5; subst q5
  obtain ⟨q5, _⟩ := b2
  simp at q5; subst q5
  obtain ⟨loc, len', cap', p1, p2⟩ := d2
  rw [r1] at p1; cases p1
  simp at p2; subst p2
  have hlen : len = l.length := g1
  have hcap : cap = 0 := g4.1
  have hl0 : l.length = 0 := by omega
  subst hcap
  have : len = 0 := by omega
  subst this
  exact ⟨List.eq_nil_of_length_eq_zero hl0, a1, b1', d1⟩

structure LogH (n : Int) (l : List (List Int)) (H : Nat → Option Body) : Prop where
  b0 : H 0 = some (.cells [.int .i64 n, .own 1])
  b1 : H 1 = some (.rows [.i64, .i64] l)
  b2 : H 2 = some (.cells [.ptr 0 0])
  b3 : H 3 = some (.cells [.lit .i64 0])
/-- the closure of a log goes through its events, as long as it stands -/
theorem since_K {P : Program} {gf : FuncId} (hs : SinceOk P gf) {n : Int} {l : List (List Int)} (hrow2 : ∀ r ∈ l, r.length = 2) (hfit : Fits .i64 (l.length : Int)) (hH : LogH n l H) (x : RelH w0 O ρ H w Φ) {v : Value} (t9 : DenV w0 O ρ (.func gf [] [.ptr 2 0, .ptr 3 0]) v) :
    ∃ lb, v = .func (.func gf) #[] lb ∧ ∃ K : World → Prop, (∀ (ρ' : Rho) (H' : Nat → Option Body) Φ' W, (∀ j h, j < 4 → ρ j = some h → ρ' j = some h) → LogH n l H' → RelH w0 O ρ' H' W Φ' → K W) ∧ IterOk P gf lb evV l K := by
  obtain ⟨c, e1, e2⟩ := func_den t9
  simp only [DenT] at e2
  obtain ⟨v1, r1, q1, d1, v2, r2, rfl, d2, rfl⟩ := e2
  obtain ⟨h2, bR, oR, m1, m2, rfl⟩ := ptrD d1
  obtain ⟨h3, bN, oN, n1, n2, rfl⟩ := ptrD d2
  have hc : c = #[.pointer (some ⟨bR, oR + 0, none⟩), .pointer (some ⟨bN, oN + 0, none⟩)] := by cases c; simp at q1; subst q1; rfl
  subst hc
  refine ⟨_, e1, ?_⟩
  obtain ⟨h0, g1, g2⟩ := x.holds 0 _ hH.b0
  obtain ⟨h1, g3, g4⟩ := x.holds 1 _ hH.b1
  have box := hd_cells x (id := 2) (cs := [.ptr 0 0]) hH.b2 m1 m2 0 _ rfl
  obtain ⟨_, _, z2, _⟩ := box
  simp only [DenC] at z2
  obtain ⟨hh, b, base, z3, z4, _⟩ := z2
  rw [g1] at z3; cases z3
  have own := hd_cells x (id := 0) (cs := [.int .i64 n, .own 1]) hH.b0 g1 z4 1 _ rfl
  obtain ⟨_, _, y2, _⟩ := own
  simp only [DenC] at y2
  obtain ⟨loc, len, cap, y3, _⟩ := y2
  rw [g3] at y3; cases y3
  have low : ∀ {ρ' : Rho}, (∀ j h, j < 4 → ρ j = some h → ρ' j = some h) → ρ' 2 = some h2 ∧ ρ' 3 = some h3 ∧ ρ' 0 = some h0 ∧ ρ' 1 = some (.sl loc len cap) := fun h => ⟨h 2 _ (by omega) m1, h 3 _ (by omega) n1, h 0 _ (by omega) g1, h 1 _ (by omega) g3⟩
  cases loc with
  | some y =>
    obtain ⟨b1, o1⟩ := y
    refine ⟨LogK bR (oR + 0) bN (oN + 0) b base b1 o1 cap l, fun ρ' H' Φ' W hlow hH' x => ?_, hs.has _ _ _ _ _ _ _ _ _ _ (by have := (fits_int hfit).2; omega)⟩
    obtain ⟨a1, a2, a3, a4⟩ := low hlow
    exact logK_of x hH'.b0 hH'.b1 hH'.b2 hH'.b3 a1 m2 a2 n2 a3 z4 a4 hrow2
  | none =>
    obtain ⟨rfl, _⟩ := logN_of x hH.b0 hH.b1 hH.b2 hH.b3 m1 m2 n1 n2 g1 z4 g3
    refine ⟨LogN bR (oR + 0) bN (oN + 0) b base, fun ρ' H' Φ' W hlow hH' x => ?_, hs.non _ _ _ _ _ _⟩
    obtain ⟨a1, a2, a3, a4⟩ := low hlow
    exact (logN_of x hH'.b0 hH'.b1 hH'.b2 hH'.b3 a1 m2 a2 n2 a3 z4 a4).2

/-- all events, of the log as cells and rows -/
theorem events_ok {g : Ctx} (hU : CtxU g) {f gf : FuncId} {fn : Func} (hf : g.P.funcs[f]? = some fn) (hname : (fn.name == "runtime.NumGoroutine") = false) {r : RParts} (hb : fn.body = some r.code) (hn : fn.ntmps = 16) (hres : fn.results = #[.tmp 2])
    (hp : r.p = 10) (hg9 : r.g = .tmp 9) (eg : ∀ args w, (callFunc gf args).run g.P w = .ok (.enter gf args) w) (hs : SinceOk g.P gf) (hpl : plainC r.A = true ∧ plainC r.Bd = true) {m : Nat} {l : List (List Int)} (hl16 : l.length * 16 ≤ 2 ^ 47)
    (hpre : ∀ n : Int, runP g m fn.ntmps [] r.c0 r.c1 r.c2 [.ptr 0 0] [.cells [.int .i64 n, .own 1], .rows [.i64, .i64] l] [3, 9] [0, 1, 4, 5, 3, 2] = some ([.ptr 4 0, .func gf [] [.ptr 2 0, .ptr 3 0]], (evB n l []).map some, [0 ≤ n ∧ n.toNat * 16 ≤ 2 ^ 47]))
    (hround : ∀ n pre a b, runR g m fn.ntmps [] [] r.A r.Bd [(10, .agg [.int .i64 a, .int .i64 b]), (3, .ptr 4 0)] (evB n l pre) [0, 1, 2, 3, 4, 8] = some ((evB n l (pre ++ [[a, b]])).map some, [(pre ++ [[a, b]]).length * 16 ≤ 2 ^ 47]))
    (hpost : ∀ n pre, runE g m fn.ntmps r.i r.ops [(3, .ptr 4 0)] (evB n l pre) 2 [0, 1, 5] = some (.own 2, [.cells [.int .i64 n, .own 1], .rows [.i64, .i64] l, .rows [.i64, .i64] pre].map some, [])) :
    FnOk g f [.ptr 0 0] [.log l] { val := .own 1, new := [.rows [.i64, .i64] l], C := [l.length * 16 ≤ 2 ^ 47] } := by
  refine FnOk.logRows (FnOk.factsB fun hfc => ?_)
  have hrow := hfc (.rows [.i64, .i64] l) (by simp)
  have hrow2 : ∀ r ∈ l, r.length = 2 := fun r hr => (hrow r hr).1
  have hfit := hfc (.cells [.int .i64 l.length, .own 1]) (by simp)
  have hfitl : Fits .i64 (l.length : Int) := hfit.1
  obtain ⟨c0, c1, c2, k, gop, p, A, Bd, i, ops⟩ := r
  simp only at hp hg9 hpl hpre hround hpost
  subst hp; subst hg9
  refine rangeFn_ok (α := List Int) hU hf hname hb (by rw [hn]; decide) hres (by show 10 < fn.ntmps; rw [hn]; decide) (args := [.ptr 0 0]) (B := [.cells [.int .i64 l.length, .own 1], .rows [.i64, .i64] l]) (by rw [hn]; decide) (by simp) (hpre _) ?_ (by decide) (m := 5) ?_ (by simp) ?_ (gf := gf) (enc := evV) (encS := evS) (xs := l)
    (Bs := evB l.length l) (S := [(3, .ptr 4 0)]) (fun t => ?_) ?_ ?_ ?_ eg ?_ (by simp [evB]) (hpost _ _) (by simp [AllC]) (by decide) ?_ rfl ?_ (by simp)
  · intro q hq
    simp only [List.mem_singleton] at hq; subst hq
    exact ⟨by omega, by simpa using hl16⟩
  · intro j _ hj
    match j, hj with
    | 0, _ => rfl
    | 1, _ => rfl
    | j + 2, hj => exact absurd hj (by simp)
  · intro k hk; simp at hk; rcases hk with rfl | rfl <;> decide
  · by_cases h3 : t = 3
    · subst h3; left; rfl
    · right
      have e : tget (mkT [(3, SV.ptr 4 0)]) t = if t = 3 then .ptr 4 0 else tget (mkT []) t := Tr.get_set _ _ _ _ _ (by decide)
      rw [e, if_neg h3]; simp [tget, mkT, Tr.get_lf]
  · intro pre x rest hx
    obtain ⟨a, b, rfl⟩ : ∃ a b, x = [a, b] := by
      have := hrow2 x (by rw [hx]; simp)
      match x, this with
      | [a, b], _ => exact ⟨a, b, rfl⟩
    refine RoundOk.run hU hpl.1 hpl.2 (by rw [hn]; decide) (by simp [evB]) (hround l.length pre a b) ?_ (by decide) ?_
    · intro q hq
      simp only [List.mem_singleton] at hq; subst hq
      have : (pre ++ [[a, b]]).length ≤ l.length := by rw [hx]; simp
      omega
    · intro j hj
      match j, hj with
      | 0, _ => rfl
      | 1, _ => rfl
      | 2, _ => rfl
      | 3, _ => rfl
      | 4, _ => rfl
      | j + 5, hj => exact absurd hj (by omega)
  · intro x hx w0 O ρ
    obtain ⟨h2, hk⟩ := hrow x hx
    obtain ⟨a, b, rfl⟩ : ∃ a b, x = [a, b] := by
      match x, h2 with
      | [a, b], _ => exact ⟨a, b, rfl⟩
    have ha := hk 0 .i64 a rfl rfl
    have hb := hk 1 .i64 b rfl rfl
    refine .inr ⟨rfl, ?_⟩
    simp only [evS, evV, DenC, DenL]
    exact ⟨_, _, rfl, ⟨rfl, ha⟩, rfl, _, _, rfl, ⟨rfl, hb⟩, rfl, rfl⟩
  · intro y hy; simp at hy; subst hy; exact ⟨by decide, by simp [mapC, lowId]⟩
  · intro w0 O hG ρ Φ a w r
    have t9 := r.tmps 9
    rw [show tget (mkT (([3, 9] : List Nat).zip [SV.ptr 4 0, .func gf [] [.ptr 2 0, .ptr 3 0]])) 9 = .func gf [] [.ptr 2 0, .ptr 3 0] from rfl] at t9
    obtain ⟨lb, e1, K, hK, hit⟩ := since_K hs hrow2 hfitl (n := l.length) ⟨rfl, rfl, rfl, rfl⟩ r.heap t9
    exact ⟨lb, e1, K, fun pre ρ' Φ' W hlow x => hK ρ' _ Φ' W (fun j h hj => hlow j h (by omega)) ⟨rfl, rfl, rfl, rfl⟩ x, hit⟩
  · intro j hj
    match j, hj with
    | 0, _ => rfl
    | 1, _ => rfl
    | j + 2, hj => exact absurd hj (by simp)
  · intro j hj
    match j, hj with
    | 0, _ => rfl
    | 1, _ => rfl
    | 2, _ => rfl
    | j + 3, hj => exact absurd hj (by simp)

end
end Go.Vx
