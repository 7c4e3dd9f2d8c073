/- Accounts of this seat's functions: lemmas, no statement of their own. No conditions. -/
import Derived.Test.YthciddlfnajchaaDoorTWc
import Derived.Test.YthciddlfnajchaaDoorV5
namespace Go.Proofs.Tryd
open Go Go.Vx
/-! ### DigestOfs -/
/-- a law from its entry on, that owns nothing at first -/
theorem _root_.Go.Vx.FnOk.ofN {g : Ctx} {f : FuncId} {fn : Func} {c : Code} {args : List SV} {S : List (Nat × SV)} {v : SV} {t : Nat} (hU : CtxU g) (hf : g.P.funcs[f]? = some fn) (hb : fn.body = some c) (hn : fn.ntmps < 65535) (hl : args.length ≤ fn.ntmps) (hr : fn.results.toList = [.tmp t]) (hS : entryT args 0 = mkT S)
    (cargs : ∀ w0 O ρ w1 O1 ρ1 vs, (∀ b o v, O.mem b o v → O1.mem b o v) → DenT w0 O ρ args vs → DenT w1 O1 ρ1 args vs)
    (hv : ∀ w0 O ρ w1 O1 ρ1 u, DenV w0 O ρ v u → DenV w1 O1 ρ1 v u)
    (h : ∀ W OW, (∀ b o, ¬ OW.own b o) → GlobOk g W OW → ∀ a w, StG g W OW fn.ntmps S [] a w → c.wp g.P (fun e a' w' => e = .ret ∧ ∃ S' B', StG g W OW fn.ntmps S' B' a' w' ∧ tget (mkT S') t = v) a w) : FnOk g f args [] { val := v } := by
  intro w0 O hG ρ Φ vs w hd x hr0
  have y := callG (rs := [v]) (q := 0) hU hf hb hn hl hS (fun W OW _ ho hG a w hs => wp_mono (h W OW ho hG a w hs) fun e a' w' ⟨he, S', B', hs', ht⟩ => ⟨he, S', B', hs', by rw [hr, ← ht]; rfl⟩) cargs (fun w0 O ρ w1 O1 ρ1 u _ d => hv w0 O ρ w1 O1 ρ1 u d) (Nat.zero_le _) hG x hd
  refine y.mono fun u w' ⟨O1, r, hgr, _, d⟩ => ⟨ρ, fun _ _ _ => False, hv _ _ _ _ _ _ u d, fun j h hh => hh, fun j _ => hr0 j (Nat.zero_le _), ?_⟩
  exact ⟨hgr.back _ r.frame, fun id bd hb => by simp [afterH, newH, newAll, updAll, BH] at hb, fun _ _ _ _ _ h => absurd (by simp [afterH, newH, newAll, updAll, BH]) h, fun _ _ _ h => absurd (by simp [afterH, newH, newAll, updAll, BH]) h⟩
noncomputable abbrev gX (p : Addr) : Ctx := (g3.gl (eV p)).add [(13, F13), (17, roW (oneOf F17 F17l)), (19, F19), (20, F20r), (21, seF), (22, eventsF), (27, F27), (28, F28), (29, roW F29), (30, F30), (31, F31)]
theorem gX_ok (p : Addr) : CtxU (gX p) := (gl_ok g3_ok fun _ => rfl).add mixed noGo (by
  intro x hx
  simp only [List.mem_cons, List.not_mem_nil, or_false] at hx
  rcases hx with rfl | rfl | rfl | rfl | rfl | rfl | rfl | rfl | rfl | rfl | rfl
  · exact Acc.of (g := gK p) rfl rfl (acc13 p)
  · exact acc_roW (acc_one (Acc.of (g := g5.gl (eV p)) rfl rfl (Acc.gl (fun _ => rfl) acc17)) (Acc.of (g := gv.gl (eV p)) rfl rfl (Acc.gl (fun _ => rfl) acc17l)))
  · exact Acc.of (g := g1.gl (eV p)) rfl rfl (Acc.gl (fun _ => rfl) acc19)
  · exact Acc.of (g := g1.gl (eV p)) rfl rfl (Acc.gl (fun _ => rfl) acc20r)
  · exact Acc.of (g := g1.gl (eV p)) rfl rfl (Acc.gl (fun _ => rfl) se_acc)
  · exact Acc.of (g := gx.gl (eV p)) rfl rfl (Acc.gl (fun _ => rfl) acc22)
  · exact Acc.of (g := g1.gl (eV p)) rfl rfl (Acc.gl (fun _ => rfl) acc27)
  · exact Acc.of (g := gh.gl (eV p)) rfl rfl (Acc.gl (fun _ => rfl) acc28)
  · exact acc_roW (Acc.of (g := g1.gl (eV p)) rfl rfl (Acc.gl (fun _ => rfl) acc29))
  · exact Acc.of (g := geo.gl (eV p)) rfl rfl (Acc.gl (fun _ => rfl) acc30)
  · exact Acc.of (g := g1.gl (eV p)) rfl rfl (Acc.gl (fun _ => rfl) acc31))
noncomputable abbrev fsC : Code := match Tryd.f9.body with | some c => c | none => .skip
noncomputable abbrev tiL : Code := bodyAt Tryd.prog 9 6
noncomputable abbrev ti1 : Code := match tiL with | .seq a _ => a | _ => .skip
noncomputable abbrev ti6 : Code := match tiL with | .seq _ (.seq (.block _ (.seq a _)) _) => a | _ => .skip
noncomputable abbrev ti78 : Code := match tiL with | .seq _ (.seq (.block _ (.seq _ a)) _) => a | _ => .skip
noncomputable abbrev ti5 : Code := match tiL with | .seq _ (.seq _ a) => a | _ => .skip
noncomputable abbrev ti3 : Code := match dropSeq 4 fsC with | .seq (.seq a _) _ => a | _ => .skip
theorem tiL_eq : tiL = .seq ti1 (.seq (.block 1 (.seq ti6 ti78)) ti5) := by kernel_rfl
theorem ti_4 : dropSeq 4 fsC = .seq (.seq ti3 (.block 0 (.loop tiL))) (dropSeq 5 fsC) := by kernel_rfl
abbrev tiKeep : List Nat := [0, 3, 4, 5]
noncomputable abbrev tiO (d : Nat → List Int) (m : Nat) (i : Int) : List SV := [.ro 1 m (rowL d), .own 0, .own 1, .int .i64 i]
noncomputable abbrev tiS (d : Nat → List Int) (m i : Nat) : List (Nat × SV) := tiKeep.zip (tiO d m (i : Int))
abbrev tiB (q : Nat) (w l : List (List Int)) : List Body := [.lists q .u8 w, .lists q .u8 l]
noncomputable abbrev rowB (q : Nat) (d : Nat → List Int) : Nat → SV := fun i => .rob q .u8 (d i)
abbrev roF (e : List Int) : List Int := ((roomL e).drop (0 + 0)).take (e.length + 70)
abbrev llF (e w : List Int) : List Int := (w.drop (0 : Int).toNat).take ((e.length : Int).toNat - (0 : Int).toNat)
theorem roF_eq (e : List Int) : roF e = roomL e := by
  show ((roomL e).drop (0 + 0)).take (e.length + 70) = _
  rw [Nat.add_zero, List.drop_zero, List.take_of_length_le (by rw [roomL_len]; exact Nat.le_refl _)]
theorem llF_eq (e : List Int) : llF e (roF e) = e := by
  rw [roF_eq]
  show ((roomL e).drop ((0 : Int)).toNat).take ((e.length : Int).toNat - (0 : Int).toNat) = e
  rw [show ((0 : Int)).toNat = 0 from rfl, Nat.sub_zero, List.drop_zero, Int.toNat_natCast]
  refine extI (by rw [List.length_take, roomL_len]; omega) fun j hj => ?_
  rw [List.length_take, roomL_len] at hj
  have hj2 : j < e.length := by omega
  rw [List.getD_eq_getElem?_getD, List.getElem?_take, if_pos hj2, ← List.getD_eq_getElem?_getD, roomL_get e (by omega), if_pos hj2]
theorem ti_r1 (p' : Addr) (q : Nat) (d : Nat → List Int) (m i : Nat) (w l : List (List Int)) : runC (gX p') 300 121 [.br true] ti1 (tiS d m i) (tiB q w l) tiKeep [0, 1] =
    some (.normal, tiO d m (i : Int), (tiB q w l).map some, [Fits .i64 (m : Int), decide ((i : Int) < (m : Int)) = true]) :=
  r3_parts4 (by kernel_rfl) (by kernel_rfl) (by kernel_rfl) (by kernel_rfl)
theorem ti_end (p' : Addr) (q : Nat) (d : Nat → List Int) (m i : Nat) (w l : List (List Int)) : runC (gX p') 300 121 [.br false] tiL (tiS d m i) (tiB q w l) tiKeep [0, 1] =
    some (.exit 0, tiO d m (i : Int), (tiB q w l).map some, [Fits .i64 (m : Int), decide ((i : Int) < (m : Int)) = false]) :=
  r3_parts4 (by kernel_rfl) (by kernel_rfl) (by kernel_rfl) (by kernel_rfl)
theorem ti_r6 (p' : Addr) (q : Nat) (d : Nat → List Int) (m i : Nat) (w l : List (List Int)) : runC (gX p') 300 121 [] ti6 (tiS d m i) (tiB q w l) [0, 3, 4, 5, 6] [0, 1, 2] =
    some (.normal, tiO d m (i : Int) ++ [.sl 2 ((d i).length + 70) 0 1 0 ((d i).length + 70) false], (tiB q w l ++ [Body.ints .u8 (roomL (d i))]).map some, [(d i).length ≤ 1000000000, (0 : Int) ≤ (i : Int) ∧ (i : Int) < (m : Int)]) :=
  r3_parts4 (by kernel_rfl) (by kernel_rfl) (by kernel_rfl) (by kernel_rfl)
theorem ti_r78 (p' : Addr) (q : Nat) (d : Nat → List Int) (m i : Nat) (w l : List (List Int)) (e : List Int) : runC (gX p') 300 121 [] ti78 ([0, 3, 4, 5, 6].zip (tiO d m (i : Int) ++ [.rob q .u8 e])) (tiB q w l) tiKeep [3, 5] =
    some (.normal, tiO d m (i : Int), (tiB q (w ++ [e]) (l ++ [llF (d i) e])).map some, [(w ++ [e]).length * 24 ≤ 2 ^ 47, q ≤ q, (l ++ [llF (d i) e]).length * 24 ≤ 2 ^ 47, q ≤ q, (0 : Int) ≤ 0 ∧ (0 : Int) ≤ ((d i).length : Int) ∧ ((d i).length : Int) ≤ (e.length : Int), Fits .i64 ((d i).length : Int), (0 : Int) ≤ (i : Int) ∧ (i : Int) < (m : Int)]) :=
  r3_parts4 (by kernel_rfl) (by kernel_rfl) (by kernel_rfl) (by kernel_rfl)
theorem ti_r5 (p' : Addr) (q : Nat) (d : Nat → List Int) (m i : Nat) (w l : List (List Int)) : runC (gX p') 300 121 [] ti5 (tiS d m i) (tiB q w l) tiKeep [0, 1] =
    some (.normal, tiO d m ((i : Int) + 1), (tiB q w l).map some, [Fits .i64 ((i : Int) + 1)]) :=
  r3_parts4 (by kernel_rfl) (by kernel_rfl) (by kernel_rfl) (by kernel_rfl)
noncomputable abbrev lX9 (d : Nat → List Int) (m : Nat) : Bool := decide (400 < m ∨ stp d m < m)
theorem fs_pre (p' : Addr) (m : Nat) (d : Nat → List Int) : runC (gX p') 900 121 [.br false] (takeSeq 4 fsC) [(0, .ro 1 m (rowL d))] [] [0, 3, 4] [] =
    some (.normal, [.ro 1 m (rowL d), .raw (.slice none 0 0), .raw (.slice none 0 0)], ([] : List Body).map some, lC (rowL d) m ++ [lX9 d m = false]) :=
  r3_parts4 (by kernel_rfl) (by kernel_rfl) (by kernel_rfl) (by kernel_rfl)
theorem fs_run2 (p' : Addr) (m : Nat) (d : Nat → List Int) : runF (gX p') 900 [.br true] 9 [.ro 1 m (rowL d)] [] [] =
    some (.bool true, [], lC (rowL d) m ++ [lX9 d m = true]) :=
  run_parts (by kernel_rfl) (by kernel_rfl) (by kernel_rfl)
theorem ti_r3 (p' : Addr) (d : Nat → List Int) (m : Nat) : runC (gX p') 300 121 [] ti3 ([0, 3, 4].zip [.ro 1 m (rowL d), .raw (.slice none 0 0), .raw (.slice none 0 0)]) [] tiKeep [] =
    some (.normal, [.ro 1 m (rowL d), .raw (.slice none 0 0), .raw (.slice none 0 0), .lit .i64 0], ([] : List Body).map some, []) :=
  r3_parts4 (by kernel_rfl) (by kernel_rfl) (by kernel_rfl) (by kernel_rfl)
def wlL (d : Nat → List Int) : Nat → List (List Int)
  | 0 => []
  | i + 1 => wlL d i ++ [roF (d i)]
def llL (d : Nat → List Int) : Nat → List (List Int)
  | 0 => []
  | i + 1 => llL d i ++ [llF (d i) (roF (d i))]
theorem wlL_len (d : Nat → List Int) : ∀ i, (wlL d i).length = i
  | 0 => rfl
  | i + 1 => by simp [wlL, wlL_len d i]
theorem llL_len (d : Nat → List Int) : ∀ i, (llL d i).length = i
  | 0 => rfl
  | i + 1 => by simp [llL, llL_len d i]
theorem wlL_get (d : Nat → List Int) : ∀ {m i : Nat}, i < m → (wlL d m).getD i [] = roomL (d i)
  | m + 1, i, h => by
    simp only [wlL]
    rw [List.getD_eq_getElem?_getD]
    by_cases c : i < m
    · rw [List.getElem?_append_left (by rw [wlL_len]; exact c), ← List.getD_eq_getElem?_getD]
      exact wlL_get d c
    · have e : i = m := by omega
      subst e
      rw [List.getElem?_append_right (by rw [wlL_len]; exact Nat.le_refl _), wlL_len]
      simp [roF_eq]
theorem llL_get (d : Nat → List Int) : ∀ {m i : Nat}, i < m → (llL d m).getD i [] = d i
  | m + 1, i, h => by
    simp only [llL]
    rw [List.getD_eq_getElem?_getD]
    by_cases c : i < m
    · rw [List.getElem?_append_left (by rw [llL_len]; exact c), ← List.getD_eq_getElem?_getD]
      exact llL_get d c
    · have e : i = m := by omega
      subst e
      rw [List.getElem?_append_right (by rw [llL_len]; exact Nat.le_refl _), llL_len, llF_eq]
      simp
noncomputable abbrev dWh (d : Nat → List Int) (m : Nat) : Nat → List Int := fun j => (wlL d m).getD j []
noncomputable abbrev dL (d : Nat → List Int) (m : Nat) : Nat → List Int := fun j => (llL d m).getD j []
theorem rowB_imp {q n : Nat} {d : Nat → List Int} : DenImp (.ro 1 n (rowB q d)) (.ro 1 n (rowL d)) := fun w0 O ρ v h => by
  obtain ⟨h1, h2⟩ := denV_cell h (by simp) rfl
  refine den_cell rfl h2 ?_
  simp only [DenC] at h1 ⊢
  obtain ⟨a, cap, e1, e2, e3⟩ := h1
  exact ⟨a, cap, e1, e2, fun h0 => let ⟨b, o, g1, g2⟩ := e3 h0; ⟨b, o, g1, fun i hi => let ⟨us, u1, u2, u3⟩ := g2 i hi; ⟨us, u1, u2, rob_roi (ρ := ρ) u3⟩⟩⟩
/-- the lists are made -/
theorem ti_all (p' : Addr) (q : Nat) (d : Nat → List Int) (m : Nat) (hm : m ≤ 1000) (hl : ∀ i, i < m → (d i).length ≤ 131072) {W : World} {OW : Go.Vx.Own} (hq : q ≤ W.heap.size) (hown : ∀ b o, ¬ OW.own b o) {a : Act} {w : World} (h : StG (gX p') W OW 121 ([0, 3, 4].zip [.ro 1 m (rowL d), .raw (.slice none 0 0), .raw (.slice none 0 0)]) [] a w) {Q : Exit → Act → World → Prop}
    (hQ : ∀ a' w', StG (gX p') W OW 121 ([0, 3, 4].zip [.ro 1 m (rowL d), .ro 1 m (rowL (dWh d m)), .ro 1 m (rowB q (dL d m))]) [] a' w' → (dropSeq 5 fsC).wp (gX p').P Q a' w') : (dropSeq 4 fsC).wp (gX p').P Q a w := by
  have Fm : Fits .i64 (m : Int) := fits_of (by omega) (by omega)
  rw [ti_4]
  refine wp_seq (wp_seq ?_)
  refine StG.run h (gX_ok p') (by decide) (ti_r3 p' d m) (by simp [AllC]) (by decide) (by decide) (by simp) fun a w h => ?_
  show (Code.block 0 (.loop tiL)).wp _ _ a w
  refine wp_block ?_
  have h := StG.pre h (fun t => zip_norm tiKeep _ t (by decide))
  have h := StG.adopt h (.lists q .u8 []) 3 rfl rfl (by simp [normL]) (by simp [normL])
  have h : StG (gX p') W OW 121 (tiKeep.zip [.ro 1 m (rowL d), .own 0, .raw (.slice none 0 0), .int .i64 0]) [.lists q .u8 []] a w := h
  have h := StG.adopt h (.lists q .u8 []) 4 rfl rfl (by simp) (by simp)
  have h : StG (gX p') W OW 121 (tiS d m 0) (tiB q (wlL d 0) (llL d 0)) a w := h
  refine StG.iter (S := fun i => tiS d m i) (B := fun i => tiB q (wlL d i) (llL d i)) (N := m) (fun i hi a w h Q' hq => ?_) (fun a w h => ?_) 0 (Nat.zero_le _) a w h
  · have hw := wlL_len d i
    have hll := llL_len d i
    have hli := hl i hi
    have hI : (0 : Int) ≤ (i : Int) ∧ (i : Int) < (m : Int) := ⟨by omega, by omega⟩
    rw [tiL_eq]
    refine wp_seq (StG.run h (gX_ok p') (by decide) (ti_r1 p' q d m i _ _) (by simp only [allC_cons, allC_nil, and_true]; exact ⟨Fm, decide_eq_true (by omega)⟩) (by decide) (by decide) (by simp) fun a w h => ?_)
    show (Code.seq (.block 1 (.seq ti6 ti78)) ti5).wp _ _ a w
    refine wp_seq (wp_block (wp_seq (StG.run h (gX_ok p') (by decide) (ti_r6 p' q d m i _ _) (by simp only [allC_cons, allC_nil, and_true]; exact ⟨by omega, hI⟩) (by decide) (by decide) (by simp) fun a w h => ?_)))
    show ti78.wp _ _ a w
    have h2 : StG (gX p') W OW 121 ([0, 3, 4, 5, 6].zip (tiO d m (i : Int) ++ [.rob q .u8 (roF (d i))])) (tiB q (wlL d i) (llL d i)) a w := by
      refine StG.freeze (B := tiB q (wlL d i) (llL d i)) (bd := .ints .u8 (roomL (d i))) h rfl (by decide) rfl fun j c c' h1 h2 => ?_
      match j, h1, h2 with
      | 0, h1, h2 => simp at h1 h2; subst h1; subst h2; exact .inl rfl
      | 1, h1, h2 => simp at h1 h2; subst h1; subst h2; exact .inl rfl
      | 2, h1, h2 => simp at h1 h2; subst h1; subst h2; exact .inl rfl
      | 3, h1, h2 => simp at h1 h2; subst h1; subst h2; exact .inl rfl
      | 4, h1, h2 =>
        simp at h1 h2; subst h1; subst h2
        exact .inr fun w0 O ρ H w Φ O1 x hb hO hm hn v ρ1 hd => by
          have := frozen_slN (q := q) (ρ1 := ρ1) x hb hm (fun b o h1 => by
            rcases Nat.lt_or_ge b W.heap.size with h2 | h2
            · exact absurd (hn b o h1 h2) (hown b o)
            · omega) (by rw [roomL_len]; omega) hd
          simpa [roF] using this
      | n + 5, h1, _ => simp at h1
    have hr := ti_r78 p' q d m i (wlL d i) (llL d i) (roF (d i))
    refine StG.run h2 (gX_ok p') (by decide) hr ?_ (by decide) (by decide) (by simp) fun a w h => ?_
    · simp only [allC_cons, allC_nil, and_true, List.length_append, List.length_singleton]
      exact ⟨by omega, Nat.le_refl _, by omega, Nat.le_refl _, ⟨by omega, by omega, by rw [roF_eq, roomL_len]; omega⟩, fits_of (by omega) (by omega), hI⟩
    · show ti5.wp _ _ a w
      refine StG.run (B := tiB q (wlL d (i + 1)) (llL d (i + 1))) h (gX_ok p') (by decide) (ti_r5 p' q d m i _ _) (by simp only [allC_cons, allC_nil, and_true]; exact fits_of (by omega) (by omega)) (by decide) (by decide) (by simp) fun a w h => ?_
      exact hq a w h
  · refine StG.run h (gX_ok p') (by decide) (ti_end p' q d m m _ _) (by simp only [allC_cons, allC_nil, and_true]; exact ⟨Fm, decide_eq_false (by omega)⟩) (by decide) (by decide) (by simp) fun a w h => ?_
    simp only [Ex.up, Exit.then, Exit.inBlock, if_true]
    have h2 : StG (gX p') W OW 121 (tiKeep.zip [.ro 1 m (rowL d), .own 0, .ro 1 (llL d m).length (rowB q (dL d m)), .int .i64 (m : Int)]) [.lists q .u8 (wlL d m)] a w := by
      refine StG.freeze (B := [.lists q .u8 (wlL d m)]) (bd := .lists q .u8 (llL d m)) h rfl (by decide) rfl fun j c c' h1 h2 => ?_
      match j, h1, h2 with
      | 0, h1, h2 => simp at h1 h2; subst h1; subst h2; exact .inl rfl
      | 1, h1, h2 => simp at h1 h2; subst h1; subst h2; exact .inl rfl
      | 2, h1, h2 =>
        simp at h1 h2; subst h1; subst h2
        exact .inr fun w0 O ρ H w Φ O1 x hb hO hm _ v ρ1 hd => frozen_lists x hb hm hO hd
      | 3, h1, h2 => simp at h1 h2; subst h1; subst h2; exact .inl rfl
      | n + 4, h1, _ => simp at h1
    have h3 : StG (gX p') W OW 121 (tiKeep.zip [.ro 1 m (rowL d), .ro 1 (wlL d m).length (rowB q (dWh d m)), .ro 1 (llL d m).length (rowB q (dL d m)), .int .i64 (m : Int)]) [] a w := by
      refine StG.freeze (B := []) (bd := .lists q .u8 (wlL d m)) h2 rfl (by decide) rfl fun j c c' h1 h2 => ?_
      match j, h1, h2 with
      | 0, h1, h2 => simp at h1 h2; subst h1; subst h2; exact .inl rfl
      | 1, h1, h2 =>
        simp at h1 h2; subst h1; subst h2
        exact .inr fun w0 O ρ H w Φ O1 x hb hO hm _ v ρ1 hd => frozen_lists x hb hm hO hd
      | 2, h1, h2 => simp at h1 h2; subst h1; subst h2; exact .inl rfl
      | 3, h1, h2 => simp at h1 h2; subst h1; subst h2; exact .inl rfl
      | n + 4, h1, _ => simp at h1
    rw [wlL_len, llL_len] at h3
    refine hQ _ _ ?_
    have h4 : StG (gX p') W OW 121 ([0, 3, 4].zip [.ro 1 m (rowL d), .ro 1 m (rowB q (dWh d m)), .ro 1 m (rowB q (dL d m))]) [] a w := by
      obtain ⟨w0, O, ρ, Φ, hG, hgr, r, hr⟩ := h3
      exact ⟨w0, O, ρ, Φ, hG, hgr, r.sub (sub_mkT (by simp; exact ⟨rfl, rfl, rfl⟩)), hr⟩
    refine StG.pre h4 (fun t => ?_)
    refine zip_rel (R := DenImp) (DenImp.refl _) [0, 3, 4] [.ro 1 m (rowL d), .ro 1 m (rowB q (dWh d m)), .ro 1 m (rowB q (dL d m))] [.ro 1 m (rowL d), .ro 1 m (rowL (dWh d m)), .ro 1 m (rowB q (dL d m))] (by decide) rfl (fun i c c' h1 h2 => ?_) t
    match i, h1, h2 with
    | 0, h1, h2 => simp at h1 h2; subst h1; subst h2; exact DenImp.refl _
    | 1, h1, h2 => simp at h1 h2; subst h1; subst h2; exact rowB_imp
    | 2, h1, h2 => simp at h1 h2; subst h1; subst h2; exact DenImp.refl _
    | n + 3, h1, _ => simp at h1
end Go.Proofs.Tryd

namespace Go.Proofs.Tryd
open Go Go.Vx
/-! ### DigestOfs: the other runs -/
noncomputable abbrev fsS1 (q m : Nat) (d dw dl : Nat → List Int) : List (Nat × SV) := [0, 3, 4].zip [.ro 1 m (rowL d), .ro 1 m (rowL dw), .ro 1 m (rowB q dl)]
noncomputable abbrev s2L : Code := bodyAt Tryd.prog 9 16
noncomputable abbrev s2a : Code := match dropSeq 8 fsC with | .seq (.seq a _) _ => a | _ => .skip
theorem fs_8 : dropSeq 8 fsC = .seq (.seq s2a (.block 2 (.loop s2L))) (dropSeq 9 fsC) := by kernel_rfl
noncomputable abbrev fsL : Code := bodyAt Tryd.prog 9 21
noncomputable abbrev fs20 : Code := match dropSeq 9 fsC with | .seq (.seq a _) _ => a | _ => .skip
theorem fs_9 : dropSeq 9 fsC = .seq (.seq fs20 (.block 4 (.loop fsL))) (dropSeq 10 fsC) := by kernel_rfl
noncomputable abbrev fs21 : Code := match fsL with | .seq a _ => a | _ => .skip
noncomputable abbrev fs23 : Code := match fsL with | .seq _ (.seq (.block _ (.seq a _)) _) => a | _ => .skip
noncomputable abbrev fs24 : Code := match fsL with | .seq _ (.seq (.block _ (.seq _ (.cond _ (.seq a _) _))) _) => a | _ => .skip
noncomputable abbrev fs25 : Code := match fsL with | .seq _ (.seq (.block _ (.seq _ (.cond _ (.seq _ a) _))) _) => a | _ => .skip
noncomputable abbrev fs22 : Code := match fsL with | .seq _ (.seq _ a) => a | _ => .skip
theorem fsL_eq : fsL = .seq fs21 (.seq (.block 5 (.seq fs23 (.cond (.tmp 97) (.seq fs24 fs25) .skip))) fs22) := by kernel_rfl
abbrev s2Keep : List Nat := [0, 3, 4, 9]
noncomputable abbrev s2O (q m : Nat) (d dw dl : Nat → List Int) (i : Int) : List SV := [.ro 1 m (rowL d), .ro 1 m (rowL dw), .ro 1 m (rowB q dl), .int .i64 i]
noncomputable abbrev s2S (q m : Nat) (d dw dl : Nat → List Int) (i : Nat) : List (Nat × SV) := s2Keep.zip (s2O q m d dw dl (i : Int))
abbrev fsKeep : List Nat := [4, 10]
noncomputable abbrev fsO (q m : Nat) (dl : Nat → List Int) (i : Int) : List SV := [.ro 1 m (rowB q dl), .int .i64 i]
noncomputable abbrev fsS (q m : Nat) (dl : Nat → List Int) (i : Nat) : List (Nat × SV) := fsKeep.zip (fsO q m dl (i : Int))
theorem fs_mid (p' : Addr) (q m : Nat) (d dw dl : Nat → List Int) : runC (gX p') 900 121 [.br false, .br false] (takeSeq 3 (dropSeq 5 fsC)) (fsS1 q m d dw dl) [] [0, 3, 4] [] = some (.normal, [.ro 1 m (rowL d), .ro 1 m (rowL dw), .ro 1 m (rowB q dl)], ([] : List Body).map some, [rowL dl = rowL (lOf (rowL dl)), m ≤ 1000, ∀ i, i < m → (lOf (rowL dl) i).length ≤ 131072, ([] : List (List Int)).length ≤ 90000000, (xZ dl m).length ≤ 1000000000, ofT dl m = eoT (lnL d m), (ofT dl m).length ≤ 140737488355328, (lnL d m).length ≤ 1000, LnC (lnL d m), rowL d = rowL (lOf (rowL d)), m ≤ 1000, ∀ i, i < m → (lOf (rowL d) i).length ≤ 131072, (ofT dl m).length * 16 ≤ 2 ^ 47, (!decide (listF 32 (atL (D32 (xZ dl m))) 0 = listF 32 (atL (D32 (xZ d m))) 0)) = false, Bytes (xZ d m), (xZ d m).length ≤ 70368744177664, rowL d = rowL (lOf (rowL d)), m ≤ 1000, ∀ i, i < m → (lOf (rowL d) i).length ≤ 131072, (!true) = false]) := r3_parts4 (by kernel_rfl) (by kernel_rfl) (by kernel_rfl) (by kernel_rfl)
theorem s2_a (p' : Addr) (q m : Nat) (d dw dl : Nat → List Int) : runC (gX p') 300 121 [] s2a (fsS1 q m d dw dl) [] s2Keep [] = some (.normal, [.ro 1 m (rowL d), .ro 1 m (rowL dw), .ro 1 m (rowB q dl), .lit .i64 0], ([] : List Body).map some, []) := r3_parts4 (by kernel_rfl) (by kernel_rfl) (by kernel_rfl) (by kernel_rfl)
theorem s2_go (p' : Addr) (q m i : Nat) (d dw dl : Nat → List Int) : runC (gX p') 300 121 [.br true, .br false, .br false] s2L (s2S q m d dw dl i) [] s2Keep [] = some (.normal, s2O q m d dw dl ((i : Int) + 1), ([] : List Body).map some, [Fits .i64 (m : Int), decide ((i : Int) < (m : Int)) = true, Fits .i64 ((d i).length : Int), (0 : Int) ≤ (i : Int) ∧ (i : Int) < (m : Int), Fits .i64 ((dl i).length : Int), (0 : Int) ≤ (i : Int) ∧ (i : Int) < (m : Int), (!true) = false, (d i).length ≤ 1000000000, dw i = roomL (d i), (0 : Int) ≤ (i : Int) ∧ (i : Int) < (m : Int), (0 : Int) ≤ (i : Int) ∧ (i : Int) < (m : Int), (!decide (((dl i).length : Int) = ((d i).length : Int))) = false, Fits .i64 ((i : Int) + 1)]) := r3_parts4 (by kernel_rfl) (by kernel_rfl) (by kernel_rfl) (by kernel_rfl)
theorem s2_end (p' : Addr) (q m i : Nat) (d dw dl : Nat → List Int) : runC (gX p') 300 121 [.br false] s2L (s2S q m d dw dl i) [] s2Keep [] = some (.exit 2, s2O q m d dw dl (i : Int), ([] : List Body).map some, [Fits .i64 (m : Int), decide ((i : Int) < (m : Int)) = false]) := r3_parts4 (by kernel_rfl) (by kernel_rfl) (by kernel_rfl) (by kernel_rfl)
theorem fs_r20 (p' : Addr) (q m : Nat) (d dw dl : Nat → List Int) (z : SV) : runC (gX p') 300 121 [] fs20 (s2Keep.zip [.ro 1 m (rowL d), .ro 1 m (rowL dw), .ro 1 m (rowB q dl), z]) [] fsKeep [] = some (.normal, [.ro 1 m (rowB q dl), .lit .i64 0], ([] : List Body).map some, []) := r3_parts4 (by kernel_rfl) (by kernel_rfl) (by kernel_rfl) (by kernel_rfl)
theorem fs_go (p' : Addr) (q m i : Nat) (dl : Nat → List Int) : runC (gX p') 300 121 [.br true, .br false] fsL (fsS q m dl i) [] fsKeep [] = some (.normal, fsO q m dl ((i : Int) + 1), ([] : List Body).map some, [Fits .i64 (m : Int), decide ((i : Int) < (m : Int)) = true, Fits .i64 ((dl (i : Int).toNat).length : Int), (0 : Int) ≤ (i : Int) ∧ (i : Int) < (m : Int), decide ((0 : Int) < ((dl (i : Int).toNat).length : Int)) = false, Fits .i64 ((i : Int) + 1)]) := r3_parts4 (by kernel_rfl) (by kernel_rfl) (by kernel_rfl) (by kernel_rfl)
theorem fs_end (p' : Addr) (q m i : Nat) (dl : Nat → List Int) : runC (gX p') 300 121 [.br false] fsL (fsS q m dl i) [] fsKeep [] = some (.exit 4, fsO q m dl (i : Int), ([] : List Body).map some, [Fits .i64 (m : Int), decide ((i : Int) < (m : Int)) = false]) := r3_parts4 (by kernel_rfl) (by kernel_rfl) (by kernel_rfl) (by kernel_rfl)
theorem fs_r21 (p' : Addr) (q m i : Nat) (dl : Nat → List Int) : runC (gX p') 300 121 [.br true] fs21 (fsS q m dl i) [] fsKeep [] = some (.normal, fsO q m dl (i : Int), ([] : List Body).map some, [Fits .i64 (m : Int), decide ((i : Int) < (m : Int)) = true]) := r3_parts4 (by kernel_rfl) (by kernel_rfl) (by kernel_rfl) (by kernel_rfl)
theorem fs_r23 (p' : Addr) (q m i : Nat) (dl : Nat → List Int) : runC (gX p') 300 121 [] fs23 (fsS q m dl i) [] [4, 10, 97] [] = some (.normal, fsO q m dl (i : Int) ++ [.sbool (decide ((0 : Int) < ((dl (i : Int).toNat).length : Int)))], ([] : List Body).map some, [Fits .i64 ((dl (i : Int).toNat).length : Int), (0 : Int) ≤ (i : Int) ∧ (i : Int) < (m : Int)]) := r3_parts4 (by kernel_rfl) (by kernel_rfl) (by kernel_rfl) (by kernel_rfl)
theorem fs_r25 (p' : Addr) (m : Nat) (e : Nat → List Int) : runC (gX p') 900 121 [.br true] fs25 ([4].zip [.ro 1 m (rowL e)]) [] [2] [] = some (.ret, [.sbool true], ([] : List Body).map some, [rowL e = rowL (lOf (rowL e)), Fits .i64 (m : Int), LB e m, (xZ e m).length ≤ 1000000000, decide (listF 32 (atL (D32 (xZ e m))) 0 = listF 32 (atL (D32 (xZ e m))) 0) = true, Bytes (xZ e m), (xZ e m).length ≤ 70368744177664, rowL e = rowL (lOf (rowL e)), m ≤ 1000, ∀ i, i < m → (lOf (rowL e) i).length ≤ 131072]) := r3_parts4 (by kernel_rfl) (by kernel_rfl) (by kernel_rfl) (by kernel_rfl)
theorem fs_r27 (p' : Addr) (q m i : Nat) (dl : Nat → List Int) : runC (gX p') 300 121 [] (dropSeq 10 fsC) (fsS q m dl i) [] [2] [] = some (.ret, [.sbool true], ([] : List Body).map some, []) := r3_parts4 (by kernel_rfl) (by kernel_rfl) (by kernel_rfl) (by kernel_rfl)
def regOps : Code → Array Oper
  | .region _ ops _ => ops
  | _ => #[]
/-! ### DigestOfs: a byte of one of the lists is turned -/
noncomputable abbrev op24 : Array Oper := regOps fs24
noncomputable abbrev l24 : List Oper := [op24[0]!, op24[1]!, op24[2]!, op24[3]!, op24[4]!, op24[5]!, op24[6]!, op24[7]!, op24[8]!, op24[9]!, op24[10]!, op24[11]!, op24[12]!]
theorem fs24_eq : fs24 = .region 24 l24.toArray true := by kernel_rfl
theorem int_den {w0 : World} {O : Go.Vx.Own} {ρ : Rho} {k : IntKind} {n : Int} {v : Value} (h : DenV w0 O ρ (.int k n) v) : v = .int k n := by
  obtain ⟨h1, _⟩ := denV_cell h (by simp) rfl
  simp only [DenC] at h1
  simpa using h1.1
theorem nil_clean : ∀ id bd, BH ([] : List Body) id = some bd → cleanB bd = true := fun id bd h => by simp [BH] at h
theorem c22 (p' : Addr) : (gX p').P.cellsOf 22 = 1 := by kernel_rfl
theorem c5 (p' : Addr) : (gX p').P.cellsOf 5 = 1 := by kernel_rfl
theorem u51 (p' : Addr) : (gX p').P.underlying 51 = some (.slice 22) := by kernel_rfl
theorem u22 (p' : Addr) : (gX p').P.underlying 22 = some (.slice 5) := by kernel_rfl
theorem u5 (p' : Addr) : ∃ dd, (gX p').P.underlying 5 = some dd := known_spec (by kernel_rfl)
set_option maxRecDepth 100000 in
theorem fs_poke (p' : Addr) {W : World} {OW : Go.Vx.Own} (hG0 : GlobOk (gX p') W OW) {q m i : Nat} {dl : Nat → List Int} (hq : W.heap.size ≤ q) (hi : i < m) (h0 : 0 < (dl i).length) {S : List (Nat × SV)}
    (h6 : tget (mkT S) 4 = .ro 1 m (rowB q dl)) (h11 : tget (mkT S) 10 = .int .i64 (i : Int)) {a : Act} {w : World} (h : StG (gX p') W OW 121 S [] a w) {Q : Exit → Act → World → Prop}
    (hQ : ∀ (e : Nat → List Int) a' w', (∀ j, (e j).length = (dl j).length) → (∀ j, j < m → ∀ x ∈ e j, Fits .u8 x) → StG (gX p') W OW 121 ([4].zip [.ro 1 m (rowL e)]) [] a' w' → Q .normal a' w') : fs24.wp (gX p').P Q a w := by
  obtain ⟨w0, O, ρ, Φ, hG, hgr, r, hr⟩ := h
  have d6 := r.tmps 4
  rw [h6] at d6
  have e11 := r.tmps 10
  rw [h11] at e11
  have e11 := int_den e11
  obtain ⟨c6, _⟩ := denV_cell d6 (by simp) rfl
  simp only [DenC] at c6
  obtain ⟨a6, cap, e6, _, g6⟩ := c6
  obtain ⟨b0, o0, rfl, g7⟩ := g6 (by omega)
  obtain ⟨us, u1, u2, u3⟩ := g7 i hi
  obtain ⟨a', cap', rfl, f2, f3, f4⟩ := u3
  obtain ⟨bi, oi, rfl, f5, f6⟩ := f3 h0
  have e6 : a.tmps.getD 4 undef = .slice (some (adr b0 o0)) m cap := by simpa using e6
  rw [e6] at d6
  obtain ⟨n0, hn0⟩ : ∃ n0, (dl i)[0]? = some n0 := ⟨_, List.getElem?_eq_getElem h0⟩
  have hm : O.mem bi oi (.int .u8 n0) := f6 0 (.int .u8 n0) (by rw [List.getElem?_map, hn0]; rfl)
  rw [fs24_eq]
  refine wp_region_still_tail 12 mixed (by kernel_rfl) ?_
  have r1 : RelA 121 w0 O ρ (putF (tget (mkT S)) (some 4) (.raw (.slice (some (adr b0 o0)) m cap))) (BH []) Φ a { w with drawn := w.drawn + 1 } := ⟨r.size, r.defers, fun t => by
    by_cases ht : t = 4
    · subst ht
      rw [putF_same, e6]
      exact den_cell rfl rfl (by simp only [DenC]; exact ⟨trivial, rfl⟩)
    · rw [putF_ne _ _ (Ne.symm ht)]
      exact r.tmps t, r.heap.heapEq rfl rfl rfl rfl⟩
  generalize ({ w with drawn := w.drawn + 1 } : World) = w1 at *
  have hh : w1.cell? (adr b0 (o0 + i * 1)) = some (.slice (some (adr bi oi)) (dl i).length cap') := r1.heap.memCell (u2 0 _ rfl)
  have hb := r1.heap.memCell hm
  have ei : ((i : Int)).toNat * (gX p').P.cellsOf 22 = i * 1 := by rw [c22 p']; rfl
  have e0 : (0 : Int).toNat * (gX p').P.cellsOf 5 = 0 := by rw [c5 p']; rfl
  obtain ⟨dd, u5⟩ := u5 p'
  show wpStill (gX p').P l24.toArray w1 (fun a' => wpList (gX p').P l24.toArray Q [op24[12]!] a' w1) [op24[0]!, op24[1]!, op24[2]!, op24[3]!, op24[4]!, op24[5]!, op24[6]!, op24[7]!, op24[8]!, op24[9]!, op24[10]!, op24[11]!] a
  refine still_raw r1 (d := 98) (u := .slice (some (adr b0 o0)) m cap) (by kernel_rfl) (by kernel_rfl) (by decide) rfl (by have := raw_at r1 (t := 4) rfl; rw [← this]; exact exec_move (.inl (by kernel_rfl))) fun a2 r2 => ?_
  refine still_raw r2 (d := 99) (u := .int .i64 (i : Int)) (by kernel_rfl) (by kernel_rfl) (by decide) rfl (by have := r2.tmps 10; rw [show putF (putF (tget (mkT S)) (some 4) (.raw (.slice (some (adr b0 o0)) m cap))) (some 98) (.raw (.slice (some (adr b0 o0)) m cap)) 10 = tget (mkT S) 10 from rfl, h11] at this; rw [← int_den this]; exact exec_move (.inl (by kernel_rfl))) fun a3 r3 => ?_
  refine still_raw r3 (d := 100) (u := .pointer (some (adr b0 (o0 + i * 1)))) (by kernel_rfl) (by kernel_rfl) (by decide) rfl (by rw [← ei]; exact exec_index (o := op24[2]!) (x := 98) (i := .tmp 99) (k := .i64) (ii := (i : Int)) (by kernel_rfl) (u51 p') (by kernel_rfl) (raw_at r3 (t := 98) rfl) (show a3.eval (.tmp 99) = .int .i64 (i : Int) from raw_at r3 (t := 99) rfl) ⟨by omega, by omega⟩) fun a4 r4 => ?_
  refine still_raw r4 (d := 101) (u := .slice (some (adr bi oi)) (dl i).length cap') (by kernel_rfl) (by kernel_rfl) (by decide) rfl (exec_load (o := op24[3]!) (x := 100) (by kernel_rfl) (u22 p') (by kernel_rfl) (c22 p') (raw_at r4 (t := 100) rfl) hh) fun a5 r5 => ?_
  refine still_raw r5 (d := 102) (u := .slice (some (adr b0 o0)) m cap) (by kernel_rfl) (by kernel_rfl) (by decide) rfl (by have := raw_at r5 (t := 4) rfl; rw [← this]; exact exec_move (.inl (by kernel_rfl))) fun a6 r6 => ?_
  refine still_raw r6 (d := 103) (u := .int .i64 (i : Int)) (by kernel_rfl) (by kernel_rfl) (by decide) rfl (by have := raw_at r6 (t := 99) rfl; have h3 := r6.tmps 10; rw [show putF (putF (putF (putF (putF (putF (tget (mkT S)) (some 4) (.raw (.slice (some (adr b0 o0)) m cap))) (some 98) (.raw (.slice (some (adr b0 o0)) m cap))) (some 99) (.raw (.int .i64 (i : Int)))) (some 100) (.raw (.pointer (some (adr b0 (o0 + i * 1)))))) (some 101) (.raw (.slice (some (adr bi oi)) (dl i).length cap'))) (some 102) (.raw (.slice (some (adr b0 o0)) m cap)) 10 = tget (mkT S) 10 from rfl, h11] at h3; rw [← int_den h3]; exact exec_move (.inl (by kernel_rfl))) fun a7 r7 => ?_
  refine still_raw r7 (d := 104) (u := .pointer (some (adr b0 (o0 + i * 1)))) (by kernel_rfl) (by kernel_rfl) (by decide) rfl (by rw [← ei]; exact exec_index (o := op24[6]!) (x := 102) (i := .tmp 103) (k := .i64) (ii := (i : Int)) (by kernel_rfl) (u51 p') (by kernel_rfl) (raw_at r7 (t := 102) rfl) (show a7.eval (.tmp 103) = .int .i64 (i : Int) from raw_at r7 (t := 103) rfl) ⟨by omega, by omega⟩) fun a8 r8 => ?_
  refine still_raw r8 (d := 105) (u := .slice (some (adr bi oi)) (dl i).length cap') (by kernel_rfl) (by kernel_rfl) (by decide) rfl (exec_load (o := op24[7]!) (x := 104) (by kernel_rfl) (u22 p') (by kernel_rfl) (c22 p') (raw_at r8 (t := 104) rfl) hh) fun a9 r9 => ?_
  refine still_raw r9 (d := 106) (u := .pointer (some (adr bi oi))) (by kernel_rfl) (by kernel_rfl) (by decide) rfl (by have := exec_index (P := (gX p').P) (a := a9) (w := w1) (o := op24[8]!) (x := 105) (i := .const (.int .i64 (Int.ofNat 0))) (k := .i64) (ii := 0) (by kernel_rfl) (u22 p') (by kernel_rfl) (raw_at r9 (t := 105) rfl) rfl ⟨by omega, by omega⟩; rw [e0, Nat.add_zero] at this; exact this) fun a10 r10 => ?_
  refine still_raw r10 (d := 107) (u := .int .u8 n0) (by kernel_rfl) (by kernel_rfl) (by decide) rfl (exec_load (o := op24[9]!) (x := 106) (by kernel_rfl) u5 (by kernel_rfl) (c5 p') (raw_at r10 (t := 106) rfl) hb) fun a11 r11 => ?_
  refine still_raw r11 (d := 108) (by kernel_rfl) (by kernel_rfl) (by decide) rfl (exec_xor (o := op24[10]!) (t := 5) (t2 := 5) (x := 107) (y := .const (.int .u8 (Int.ofNat 1))) (k := .u8) (m := n0) (n := 1) (by kernel_rfl) (raw_at r11 (t := 107) rfl) rfl) fun a12 r12 => ?_
  refine still_raw r12 (d := 109) (u := .pointer (some (adr bi oi))) (by kernel_rfl) (by kernel_rfl) (by decide) rfl (by have := exec_index (P := (gX p').P) (a := a12) (w := w1) (o := op24[11]!) (x := 101) (i := .const (.int .i64 (Int.ofNat 0))) (k := .i64) (ii := 0) (by kernel_rfl) (u22 p') (by kernel_rfl) (raw_at r12 (t := 101) rfl) rfl ⟨by omega, by omega⟩; rw [e0, Nat.add_zero] at this; exact this) fun a13 r13 => ?_
  have hX : ∀ z : Int, Fits .u8 (IntKind.u8.wrap z) := fun z => fits_wrap .u8 z
  refine wpStill_nil ?_
  unfold wpList
  rw [if_pos (by unfold Region.wanted; rw [show (op24[12]!).guard = none by kernel_rfl])]
  left
  unfold Oper.wp
  have hfr := frozen_quiet hb ((hgr.back _ r13.heap.frame).calm _ (Nat.le_trans hq f5))
  rw [exec_store (o := op24[12]!) (x := 109) (y := 108) (by kernel_rfl) u5 (c5 p') (raw_at r13 (t := 109) rfl) (raw_at r13 (t := 108) rfl) hb hfr, Oper.upon_skip]
  rw [show (op24[12]!).dst = none by kernel_rfl]
  show Q .normal a13 _
  obtain ⟨O1, y1, y2, y3, y4⟩ := poke1 r13.heap hgr nil_clean (.int .u8 _) hm (Nat.le_trans hq f5)
  obtain ⟨e, z1, z2, z3⟩ := den_poke (w1 := _) (O1 := O1) (ρ1 := ρ) r13.heap d6 hm y3 y4 (hX _)
  refine hQ e _ _ z1 z2 ⟨_, O1, ρ, Φ, glob_sub y2.mem hG0, y2, ⟨r13.size, r13.defers, fun t' => ?_, y1⟩, hr⟩
  rcases tget_mkT ([4].zip [SV.ro 1 m (rowL e)]) t' (by simp) with e' | ⟨y, k1, k2, k3⟩
  · rw [e']; exact .inl rfl
  · rw [k3]
    simp at k1
    subst k1
    simp only at k2; subst k2
    rw [raw_at r13 (t := 4) rfl]
    exact z3
end Go.Proofs.Tryd

namespace Go.Proofs.Tryd
open Go Go.Vx
/-! ### DigestOfs: the account -/
theorem xZ_cg {d e : Nat → List Int} : ∀ {m : Nat}, (∀ i, i < m → d i = e i) → xZ d m = xZ e m
  | 0, _ => rfl
  | m + 1, h => by simp only [xZ]; rw [xZ_cg fun i hi => h i (by omega), h m (by omega)]
theorem ofT_cg {d e : Nat → List Int} {m : Nat} (h : ∀ i, i < m → d i = e i) : ofT d m = ofT e m := by
  have key : ∀ i, i ≤ m → ofH d i = ofH e i ∧ olE d i = olE e i := by
    intro i
    induction i with
    | zero => intro _; exact ⟨rfl, rfl⟩
    | succ i ih =>
      intro hi
      obtain ⟨h1, h2⟩ := ih (by omega)
      exact ⟨by simp only [ofH]; rw [h1, h i (by omega)], by simp only [olE]; rw [h1, h2, h i (by omega)]⟩
  obtain ⟨h1, h2⟩ := key m (Nat.le_refl _)
  rw [ofT, ofT, h1, h2]
theorem xZ_b {d : Nat → List Int} {m : Nat} (hd : ∀ i, i < m → Bytes (d i)) : ∀ i, i ≤ m → Bytes (xZ d i)
  | 0, _ => bytes_rep 0
  | i + 1, h => by
    simp only [xZ]; exact bytes_app (xZ_b hd i (by omega)) (hd i (by omega))
theorem first_or (p : Nat → Bool) : ∀ m, (∀ j, j < m → p j = false) ∨ ∃ i, i < m ∧ p i = true ∧ ∀ j, j < i → p j = false
  | 0 => .inl fun j hj => absurd hj (Nat.not_lt_zero j)
  | m + 1 => by
    rcases first_or p m with h | ⟨i, h1, h2, h3⟩
    · cases hp : p m with
      | false => left; intro j hj; rcases Nat.lt_or_ge j m with h4 | h4
                 · exact h j h4
                 · rw [show j = m by omega]; exact hp
      | true => exact .inr ⟨m, by omega, hp, h⟩
    · exact .inr ⟨i, by omega, h2, h3⟩
theorem xZ_same {d e : Nat → List Int} (h : ∀ j, (e j).length = (d j).length) : ∀ m, (xZ e m).length = (xZ d m).length
  | 0 => rfl
  | m + 1 => by simp only [xZ, List.length_append]; rw [xZ_same h m, h m]
theorem ofs_ok (p' : Addr) (m : Nat) (d : Nat → List Int) (Fm : Fits .i64 (m : Int)) (hff : ∀ i, i < m → factsC (rowL d i)) (hLB : LB d m) :
    FnOk (gX p') 9 [.ro 1 m (rowL d)] [] { val := .bool true } := by
  have hc : AllC (lC (rowL d) m) := by
    simp only [lC, allC_cons, allC_nil, and_true]; exact ⟨rfl, Fm, hLB⟩
  by_cases hX : 400 < m ∨ stp d m < m
  · exact FnOk.pure (gX_ok p') (fs_run2 p' m d) (allC_append.2 ⟨hc, by simp only [allC_cons, allC_nil, and_true]; exact decide_eq_true hX⟩)
  · have hm : m ≤ 400 := by omega
    have hs : stp d m = m := by have := stp_le d m; omega
    have hl : ∀ i, i < m → (d i).length ≤ 131072 := fun i hi => by
      have := stp_lt (d := d) (m := m) (i := i) (by omega); omega
    have hx : (xZ d m).length ≤ 131072 := xZ_len (d := d) (m := m) m (by omega)
    have hd : ∀ i, i < m → dL d m i = d i := fun i hi => llL_get d hi
    have hw : ∀ i, i < m → dWh d m i = roomL (d i) := fun i hi => wlL_get d hi
    have hdb : ∀ i, i < m → Bytes (d i) := fun i hi => bytes_of (hff i hi)
    have hbx := xZ_b hdb m (Nat.le_refl _)
    refine FnOk.ofSb (b := true) (FnOk.ofN (t := 2) (fn := Tryd.f9) (c := fsC) (S := [(0, .ro 1 m (rowL d))]) (gX_ok p') Tryd.func9 rfl (by decide) (by show 1 ≤ _; decide) rfl rfl (fun _ _ _ _ _ _ _ hO h => roT_sub hO h) sbool_all fun W OW hown hG0 a w h => ?_) rfl
    have h : StG (gX p') W OW 121 [(0, .ro 1 m (rowL d))] [] a w := h
    refine StG.cut (k := 4) h (gX_ok p') (by decide) (fs_pre p' m d) (allC_append.2 ⟨hc, by simp only [allC_cons, allC_nil, and_true]; exact decide_eq_false hX⟩) (by decide) (by decide) (by simp) fun a w h => ?_
    refine ti_all p' W.heap.size d m (by omega) hl (Nat.le_refl _) hown h fun a w h => ?_
    have ex : xZ (dL d m) m = xZ d m := xZ_cg hd
    have eT : ofT (dL d m) m = ofT d m := ofT_cg hd
    have hln := lnL_ok hl
    have hlT := eoT_len (L := lnL d m) (by rw [lnL_len]; omega) hln
    rw [eoT_eq] at hlT
    have hE := eoT_eq d m
    have hle : ∀ i, i < m → (dL d m i).length ≤ 131072 := fun i hi => by rw [hd i hi]; exact hl i hi
    refine StG.cut (k := 3) h (gX_ok p') (by decide) (fs_mid p' W.heap.size m d (dWh d m) (dL d m)) ?_ (by decide) (by decide) (by simp) fun a w h => ?_
    · simp only [allC_cons, allC_nil, and_true]
      refine ⟨rfl, by omega, fun i hi => hle i hi, Nat.zero_le _, by rw [ex]; omega, by rw [eT, hE], by rw [eT]; omega, by rw [lnL_len]; omega, hln, rfl, by omega, hl, by rw [eT]; omega, ?_, hbx, by omega, rfl, by omega, hl, rfl⟩
      rw [ex, decide_eq_true rfl]; rfl
    show (dropSeq 8 fsC).wp _ _ a w
    rw [fs_8]
    refine wp_seq (wp_seq ?_)
    refine StG.run h (gX_ok p') (by decide) (s2_a p' W.heap.size m d (dWh d m) (dL d m)) (by simp [AllC]) (by decide) (by decide) (by simp) fun a w h => ?_
    show (Code.block 2 (.loop s2L)).wp _ _ a w
    refine wp_block ?_
    have h := StG.pre h (fun t => zip_norm s2Keep _ t (by decide))
    have h : StG (gX p') W OW 121 (s2S W.heap.size m d (dWh d m) (dL d m) 0) [] a w := h
    refine StG.iter (S := fun i => s2S W.heap.size m d (dWh d m) (dL d m) i) (B := fun _ => []) (N := m) (fun i hi a w h Q' hq => ?_) (fun a w h => ?_) 0 (Nat.zero_le _) a w h
    · have hli := hl i hi
      have hlj := hle i hi
      have hI : (0 : Int) ≤ (i : Int) ∧ (i : Int) < (m : Int) := ⟨by omega, by omega⟩
      refine StG.run h (gX_ok p') (by decide) (s2_go p' W.heap.size m i d (dWh d m) (dL d m)) ?_ (by decide) (by decide) (by simp) fun a w h => hq a w h
      simp only [allC_cons, allC_nil, and_true]
      exact ⟨Fm, decide_eq_true (by omega), fits_of (by omega) (by omega), hI, fits_of (by omega) (by omega), hI, rfl, by omega, hw i hi, hI, hI, by rw [hd i hi, decide_eq_true rfl]; rfl, fits_of (by omega) (by omega)⟩
    refine StG.run h (gX_ok p') (by decide) (s2_end p' W.heap.size m m d (dWh d m) (dL d m)) (by simp only [allC_cons, allC_nil, and_true]; exact ⟨Fm, decide_eq_false (by omega)⟩) (by decide) (by decide) (by simp) fun a w h => ?_
    simp only [Ex.up, Exit.then, Exit.inBlock, if_true]
    show (dropSeq 9 fsC).wp _ _ a w
    rw [fs_9]
    refine wp_seq (wp_seq ?_)
    refine StG.run h (gX_ok p') (by decide) (fs_r20 p' W.heap.size m d (dWh d m) (dL d m) _) (by simp [AllC]) (by decide) (by decide) (by simp) fun a w h => ?_
    show (Code.block 4 (.loop fsL)).wp _ _ a w
    refine wp_block ?_
    have h := StG.pre h (fun t => zip_norm fsKeep _ t (by decide))
    have h : StG (gX p') W OW 121 (fsS W.heap.size m (dL d m) 0) [] a w := h
    have go : ∀ i, i < m → (dL d m i).length = 0 → ∀ a w, StG (gX p') W OW 121 (fsS W.heap.size m (dL d m) i) [] a w → ∀ Q' : Exit → Act → World → Prop,
        (∀ a' w', StG (gX p') W OW 121 (fsS W.heap.size m (dL d m) (i + 1)) [] a' w' → Q' .normal a' w') → fsL.wp (gX p').P Q' a w := fun i hi h0 a w h Q' hq => by
      refine StG.run h (gX_ok p') (by decide) (fs_go p' W.heap.size m i (dL d m)) ?_ (by decide) (by decide) (by simp) fun a w h => hq a w h
      have e : ((dL d m (i : Int).toNat).length : Int) = 0 := by
        show (((dL d m i).length : Nat) : Int) = 0
        rw [h0]; rfl
      simp only [allC_cons, allC_nil, and_true]
      rw [e]
      exact ⟨Fm, decide_eq_true (by omega), fits_of (by omega) (by omega), ⟨by omega, by omega⟩, rfl, fits_of (by omega) (by omega)⟩
    rcases first_or (fun i => decide (0 < (dL d m i).length)) m with hno | ⟨i, hi, hp, hpre⟩
    · refine StG.iter (S := fun i => fsS W.heap.size m (dL d m) i) (B := fun _ => []) (N := m) (fun i hi a w h Q' hq => go i hi (by have := of_decide_eq_false (hno i hi); omega) a w h Q' hq) (fun a w h => ?_) 0 (Nat.zero_le _) a w h
      refine StG.run h (gX_ok p') (by decide) (fs_end p' W.heap.size m m (dL d m)) (by simp only [allC_cons, allC_nil, and_true]; exact ⟨Fm, decide_eq_false (by omega)⟩) (by decide) (by decide) (by simp) fun a w h => ?_
      simp only [Ex.up, Exit.then, Exit.inBlock, if_true]
      exact StG.run h (gX_ok p') (by decide) (fs_r27 p' W.heap.size m m (dL d m)) (by simp [AllC]) (by decide) (by decide) (by simp) fun a w h => ⟨rfl, _, _, h, rfl⟩
    · have hp := of_decide_eq_true hp
      refine StG.iter (S := fun i => fsS W.heap.size m (dL d m) i) (B := fun _ => []) (N := i) (fun j hj a w h Q' hq => go j (by omega) (by have := of_decide_eq_false (hpre j hj); omega) a w h Q' hq) (fun a w h => ?_) 0 (Nat.zero_le _) a w h
      have hli := hle i hi
      rw [fsL_eq]
      refine wp_seq (StG.run h (gX_ok p') (by decide) (fs_r21 p' W.heap.size m i (dL d m)) (by simp only [allC_cons, allC_nil, and_true]; exact ⟨Fm, decide_eq_true (by omega)⟩) (by decide) (by decide) (by simp) fun a w h => ?_)
      show (Code.seq (.block 5 (.seq fs23 (.cond (.tmp 97) (.seq fs24 fs25) .skip))) fs22).wp _ _ a w
      refine wp_seq (wp_block (wp_seq ?_))
      refine StG.run h (gX_ok p') (by decide) (fs_r23 p' W.heap.size m i (dL d m)) ?_ (by decide) (by decide) (by simp) fun a w h => ?_
      · simp only [allC_cons, allC_nil, and_true]
        exact ⟨by show Fits .i64 (((dL d m i).length : Nat) : Int); exact fits_of (by omega) (by omega), by omega, by omega⟩
      · show (Code.cond (.tmp 97) (.seq fs24 fs25) .skip).wp _ _ a w
        have hv : a.eval (.tmp 97) = .bool true := by
          obtain ⟨w0, O, ρ, Φ, _, _, r, _⟩ := h
          have h60 := r.tmps 97
          have e60 : tget (mkT ([4, 10, 97].zip (fsO W.heap.size m (dL d m) (i : Int) ++ [.sbool (decide ((0 : Int) < ((dL d m (i : Int).toNat).length : Int)))]))) 97 = .sbool (decide ((0 : Int) < ((dL d m (i : Int).toNat).length : Int))) := rfl
          rw [e60] at h60
          obtain ⟨h1, _⟩ := denV_cell h60 (by simp) rfl
          simp only [DenC] at h1
          have e : decide ((0 : Int) < ((dL d m (i : Int).toNat).length : Int)) = true := decide_eq_true (by show (0 : Int) < (((dL d m i).length : Nat) : Int); omega)
          rw [e] at h1
          exact (List.cons.inj h1).1
        refine wp_cond hv ?_
        rw [if_pos rfl]
        refine wp_seq (fs_poke p' hG0 (Nat.le_refl _) hi hp (S := [4, 10, 97].zip (fsO W.heap.size m (dL d m) (i : Int) ++ [.sbool (decide ((0 : Int) < ((dL d m (i : Int).toNat).length : Int)))])) rfl rfl h fun e a w he hf h => ?_)
        show fs25.wp _ _ a w
        have hle2 : ∀ j, j < m → (e j).length ≤ 131072 := fun j hj => by rw [he]; exact hle j hj
        have hxe : (xZ e m).length ≤ 131072 := by rw [xZ_same he m, ex]; exact hx
        have hbe := xZ_b (d := e) (m := m) (fun j hj => bytes_of (hf j hj)) m (Nat.le_refl _)
        refine StG.run h (gX_ok p') (by decide) (fs_r25 p' m e) ?_ (by decide) (by decide) (by simp) fun a w h => ⟨rfl, _, _, h, rfl⟩
        simp only [allC_cons, allC_nil, and_true]
        exact ⟨rfl, Fm, fun j hj => by have := hle2 j hj; show (e j).length ≤ _; omega, by omega, by simp, hbe, by omega, rfl, by omega, hle2⟩
end Go.Proofs.Tryd
