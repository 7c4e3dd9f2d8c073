/- Accounts of this seat's functions: lemmas, no statement of their own. No conditions. -/
import Derived.Test.YtejcjdhplpjpjaaTUd
namespace Go.Proofs.Ytejcjdhplpjpjaa
open Go Go.Vx
/-! ### MacCuts: the account -/
noncomputable abbrev cuR9 : Code := match dropSeq 7 cuC with | .seq (.seq a _) _ => a | _ => .skip
theorem cu_7 : dropSeq 7 cuC = .seq (.seq cuR9 (.block 0 (.loop cuBody))) (dropSeq 8 cuC) := by kernel_rfl
noncomputable abbrev cuP0 (x : List Int) (k t : Nat → Int) (k2 : Nat → Int) : List Body := [.cells (svF (List.replicate 32 .u8) k 0), .cells (svF (List.replicate 16 .u8) t 0), nwV k2]
theorem cu_r9 (x cs : List Int) (k t k2 : Nat → Int) : runC gz 900 130 [] cuR9 (preKeep.zip [.roi .u8 x, .roi .i64 cs, .ptr 0 0, .ptr 1 0, .ptr 2 0, .raw (.slice none 0 0), .lit .i64 0]) (cuP0 x k t k2) cuKeep [0, 1, 2] =
    some (.normal, [.roi .u8 x, .roi .i64 cs, .ptr 0 0, .ptr 1 0, .ptr 2 0, .raw (.slice none 0 0), .lit .i64 0, .lit .i64 0], (cuP0 x k t k2).map some, []) :=
  r3_parts4 (by kernel_rfl) (by kernel_rfl) (by kernel_rfl) (by kernel_rfl)
abbrev cuQ (W : World) (OW : Go.Vx.Own) : Exit → Act → World → Prop := fun e a' w' => e = .ret ∧ ∃ S' B', StG gz W OW 130 S' B' a' w' ∧ tget (mkT S') 6 = .sbool true
theorem cuB3_closed (k t a : Nat → Int) : (cuB3 k t a).map (mapB (idx (upto (cuB3 k t a).length))) = cuB3 k t a := by kernel_rfl
theorem cuts_end {W : World} {OW : Go.Vx.Own} (x cs : List Int) (k t a : Nat → Int) (p i : Nat) (P : List (List Int)) (hk : KB k) (ht : listF 16 t 0 = DT (kk k) x) (hx : Bytes x) (hf : ∀ n ∈ x, Fits .u8 n) (hl : x.length ≤ 131072) (hi : i ≤ 400) (hc : CI x (kT (kk k)) (atL (hiK (kk k))) i (p, a, P)) (b : Act) (w : World)
    (h : StG gz W OW 130 (cuS x cs p i) (cuB k t a P) b w) : (dropSeq 8 cuC).wp gz.P (cuQ W OW) b w := by
  obtain ⟨c1, c2, c3, c4, c5⟩ := hc
  simp only at c1 c2 c3 c4 c5
  have hby := by_loop
  have er := cuR_eq x p
  have hR : (cuR x p).length ≤ x.length := by rw [er, List.length_drop]; omega
  have hLR : cuLR x p := ⟨by omega, by omega, by omega⟩
  have hDT : ∀ y, DT (kk k) y = dTag (kT (kk k)) (atL (hiK (kk k))) y := fun y => by unfold DT; rw [kk_kk]
  have hib : ∀ j, j < 16 → Byte (atL (hiK (kk k)) j) := hiB hk
  have M : MS (kT (kk k)) (atL (hiK (kk k))) x (wrA (n43 a) (cuR x p)) := by
    have := MS_write (MS_43 c3) (show Bytes (cuR x p) by rw [er]; have := sub_bytes hx p x.length; rwa [List.take_of_length_le (by rw [List.length_drop]; omega)] at this)
    rw [er, List.take_append_drop] at this
    rw [er]; exact this
  refine StG.cut (k := 2) h gz_ok (by decide) (cu_c x cs k t a p i P) ?_ (by decide) (by decide) (by simp) fun b w h => ?_
  · simp only [allC_cons, allC_nil, and_true]
    exact ⟨by rw [List.length_append, List.length_singleton]; omega, hLR, MS_h (MS_43 c3), by omega, hLR⟩
  generalize hP : P ++ [cuR x p] = P' at h
  generalize hA : wrA (n43 a) (cuR x p) = a' at h M
  have hn : P'.length ≤ 401 := by rw [← hP, List.length_append, List.length_singleton]; omega
  have hfl : P'.flatten = x := by rw [← hP, List.flatten_append, c2, er]; simp
  have hm : ∀ r ∈ P', r.length ≤ x.length ∧ ∀ n ∈ r, n ∈ x := fun r hr => by
    rw [← hP] at hr
    rcases List.mem_append.1 hr with hr | hr
    · exact c5 r hr
    · simp only [List.mem_singleton] at hr; subst hr
      exact ⟨hR, fun n hn => by rw [er] at hn; exact List.mem_of_mem_drop hn⟩
  have hg : ∀ j, j < P'.length → P'.getD j [] ∈ P' := fun j hj => by
    rw [List.getD_eq_getElem?_getD, List.getElem?_eq_getElem hj]; exact List.getElem_mem hj
  have hz : xZ (fun j => P'.getD j []) P'.length = x := by rw [xZ_flat, List.take_length]; exact hfl
  have h2 : StG gz W OW 130 (cuT x P'.length fun j => P'.getD j []) (cuB3 k t a') b w := by
    refine StG.freeze (B := cuB3 k t a') (bd := .lists .u8 P') h (cuB3_closed k t a') (by decide) rfl fun i c c' h1 h2 => ?_
    match i, h1, h2 with
    | 0, h1, h2 => simp at h1 h2; subst h1; subst h2; exact .inl rfl
    | 1, h1, h2 => simp at h1 h2; subst h1; subst h2; exact .inl rfl
    | 2, h1, h2 => simp at h1 h2; subst h1; subst h2; exact .inl rfl
    | 3, h1, h2 => simp at h1 h2; subst h1; subst h2; exact .inl rfl
    | 4, h1, h2 =>
      simp at h1 h2; subst h1; subst h2
      exact .inr fun w0 O ρ H w Φ O1 x hb hO hm v ρ1 hd => frozen_lists x hb hm hO hd
    | n + 5, h1, _ => simp at h1
  have Mh := MS_h (MS_43 M)
  have hT : listF 16 (tgN (n43 a')) 0 = listF 16 t 0 := by rw [ht, hDT]; exact MS_tag (MS_43 M) hib
  have hO : listF 16 (atL (DT (kk k) (xZ (fun j => P'.getD j []) P'.length))) 0 = listF 16 t 0 := by rw [hz, DT_L, ht]
  have hE : ∀ bb, decide ((300 : Int) < (x.length : Int)) = bb → AllC (cuE x k t a' P'.length (fun j => P'.getD j []) bb) := fun bb hbb => by
    refine allC_append.2 ⟨?_, allC_append.2 ⟨?_, ?_⟩⟩
    · simp only [allC_cons, allC_nil, and_true]
      exact ⟨Mh, by rw [decide_eq_true hO]; rfl⟩
    · simp only [oC, lC, allC_append, allC_cons, allC_nil, and_true]
      refine ⟨⟨rfl, fits_of (by omega) (by omega), fun j hj => ?_⟩, fun j hj => ?_⟩
      · have := (hm _ (hg j hj)).1
        show (P'.getD j []).length ≤ _
        omega
      · show ∀ n ∈ P'.getD j [], Fits .u8 n
        exact fun n hn => hf n ((hm _ (hg j hj)).2 n hn)
    · simp only [allC_cons, allC_nil, and_true]
      exact ⟨by rw [decide_eq_true hT]; rfl, fits_of (by omega) (by omega), hbb⟩
  by_cases h3 : 300 < x.length
  · exact StG.run h2 gz_ok (by decide) (cu_d1 x k t a' P'.length _) (hE true (decide_eq_true (by omega))) (by decide) (by decide) (by simp) fun b' w' h' => ⟨rfl, _, _, h', rfl⟩
  · have M0 := MS_new (KB_kk hk)
    have Mb := MS_43 (MS_by M0 hx x.length)
    rw [List.take_length] at Mb
    have hTb : listF 16 (tgN (byE k x)) 0 = listF 16 t 0 := by rw [ht, hDT]; exact MS_tag Mb hib
    refine StG.run h2 gz_ok (by decide) (cu_d2 x k t a' P'.length _) (allC_append.2 ⟨hE false (decide_eq_false (by omega)), ?_⟩) (by decide) (by decide) (by simp) fun b' w' h' => ⟨rfl, _, _, h', rfl⟩
    simp only [allC_cons, allC_nil, and_true]
    exact ⟨hby, by omega, hx, ⟨_, _, M0⟩, decide_eq_true hTb, MS_h Mb⟩
theorem cuts_G {W : World} {OW : Go.Vx.Own} (x cs : List Int) (k : Nat → Int) (hk : KB k) (hx : Bytes x) (hf : ∀ n ∈ x, Fits .u8 n) (hl : x.length ≤ 131072) (Fc : Fits .i64 (cs.length : Int)) (b : Act) (w : World)
    (h : StG gz W OW 130 [(0, .agg (svF (List.replicate 32 .u8) k 0)), (1, .roi .u8 x), (2, .roi .i64 cs)] [] b w) : cuC.wp gz.P (cuQ W OW) b w := by
  refine StG.cut (k := 7) h gz_ok (by decide) (cu_pre x cs k) ?_ (by decide) (by decide) (by simp) fun b w h => ?_
  · simp only [allC_cons, allC_nil, and_true]
    exact ⟨fits_of (by omega) (by omega), decide_eq_false (by omega), by omega, hx⟩
  rw [cu_7]
  refine wp_seq (wp_seq ?_)
  refine StG.run h gz_ok (by decide) (cu_r9 x cs k _ (kk k)) (by simp [AllC]) (by decide) (by decide) (by simp) fun b w h => ?_
  show (Code.block 0 (.loop cuBody)).wp _ _ b w
  refine wp_block ?_
  have h := StG.pre h (fun t => zip_norm cuKeep _ t (by decide))
  have h := StG.preI (B1 := [.cells (svF (List.replicate 32 .u8) (kk k) 0), .cells (svF (List.replicate 16 .u8) (atL (listF 16 (atL (DT (kk k) x)) 0)) 0), macV nilR (atL (nwL (kk k)))]) h
    ⟨cells_nums (ns := listF 32 k 0) (by kernel_rfl), cells_nums (ns := listF 16 (atL (DT (kk k) x)) 0) (by kernel_rfl), cells_mac (la := nwL (kk k)) (by kernel_rfl) rfl rfl, trivial⟩
  have h := StG.adopt h (.lists .u8 []) 9 rfl rfl (by simp [normL]) (by simp [normL])
  rw [DT_L] at h
  have k2 := KB_kk hk
  have M0 : MS (kT (kk (kk k))) (atL (hiK (kk (kk k)))) [] (atL (nwL (kk k))) := by
    have := MS_new k2; rw [kk_kk]; exact this
  have h : StG gz W OW 130 (cuS x cs (cuN x cs (atL (nwL (kk k))) 0).1 0) (cuB (kk k) (atL (DT (kk k) x)) (cuN x cs (atL (nwL (kk k))) 0).2.1 (cuN x cs (atL (nwL (kk k))) 0).2.2) b w := h
  have ht : listF 16 (atL (DT (kk k) x)) 0 = DT (kk (kk k)) x := by rw [DT_L, kk_kk]
  refine StG.iter (S := fun i => cuS x cs (cuN x cs (atL (nwL (kk k))) i).1 i) (B := fun i => cuB (kk k) (atL (DT (kk k) x)) (cuN x cs (atL (nwL (kk k))) i).2.1 (cuN x cs (atL (nwL (kk k))) i).2.2) (N := min cs.length 400)
    (fun i hi b w h Q' hq => cu_round x cs (kk k) _ (atL (nwL (kk k))) M0 hx hl Fc i (by omega) (by omega) b w h Q' hq) (fun b w h => ?_) 0 (Nat.zero_le _) b w h
  have hCI := CI_N (cs := cs) M0 hx (min cs.length 400)
  have fin := fun b w h => cuts_end (W := W) (OW := OW) x cs (kk k) (atL (DT (kk k) x)) _ _ (min cs.length 400) _ k2 ht hx hf hl (by omega) hCI b w h
  by_cases h4 : cs.length ≤ 400
  · refine StG.run h gz_ok (by decide) (cu_e x cs (kk k) _ _ _ _ _) (by simp only [allC_cons, allC_nil, and_true]; exact ⟨decide_eq_false (by omega), Fc⟩) (by decide) (by decide) (by simp) fun b w h => ?_
    simp only [Ex.up, Exit.then, Exit.inBlock, if_true]
    exact fin b w h
  · refine StG.run h gz_ok (by decide) (cu_m x cs (kk k) _ _ _ _ _) (by simp only [allC_cons, allC_nil, and_true]; exact ⟨decide_eq_true (by omega), Fc, decide_eq_false (by omega)⟩) (by decide) (by decide) (by simp) fun b w h => ?_
    simp only [Ex.up, Exit.then, Exit.inBlock, if_true]
    exact fin b w h
theorem cuts_run2 (x cs : List Int) (k : Nat → Int) : runF gz 900 [.br true] 5 [.agg (svF (List.replicate 32 .u8) k 0), .roi .u8 x, .roi .i64 cs] [] [] =
    some (.bool true, [], [Fits .i64 (x.length : Int), decide ((131072 : Int) < (x.length : Int)) = true]) :=
  run_parts (by kernel_rfl) (by kernel_rfl) (by kernel_rfl)
theorem cuts_ok (k : Nat → Int) (x cs : List Int) (Fx : Fits .i64 (x.length : Int)) (Fc : Fits .i64 (cs.length : Int)) : FnOk gz 5 [.agg (svF (List.replicate 32 .u8) k 0), .roi .u8 x, .roi .i64 cs] [] { val := .bool true } := by
  refine FnOk.facts fun ⟨f1, f2, _, _⟩ => ?_
  have hk := key_bytes f1
  have hf : ∀ n ∈ x, Fits .u8 n := f2
  have hx := bytes_of hf
  by_cases hl : 131072 < x.length
  · exact FnOk.pure gz_ok (cuts_run2 x cs k) (by simp only [allC_cons, allC_nil, and_true]; exact ⟨Fx, decide_eq_true (by omega)⟩)
  · refine FnOk.ofSb (b := true) (FnOk.ofG (t := 6) (fn := Try.f5) (c := cuC) (S := [(0, .agg (svF (List.replicate 32 .u8) k 0)), (1, .roi .u8 x), (2, .roi .i64 cs)]) gz_ok Try.func5 rfl (by decide) (by show 3 ≤ _; decide) rfl rfl sbool_all fun W OW _ b w h => ?_) rfl
    exact cuts_G x cs k hk hx hf (by omega) Fc b w h
theorem cuts_okZ (k : Nat → Int) (x : List Int) (zx : x.length * Try.prog.bytesOf 5 ≤ 140737488351232) (cs : List Int) (zc : cs.length * Try.prog.bytesOf 3 ≤ 140737488351232) : FnOk gz 5 [.agg (svF (List.replicate 32 .u8) k 0), .roi .u8 x, .roi .i64 cs] [] { val := .bool true } := by
  rw [show Try.prog.bytesOf 5 = 1 by kernel_rfl] at zx
  rw [show Try.prog.bytesOf 3 = 8 by kernel_rfl] at zc
  exact cuts_ok k x cs (fits_of (by omega) (by omega)) (fits_of (by omega) (by omega))
end Go.Proofs.Ytejcjdhplpjpjaa
