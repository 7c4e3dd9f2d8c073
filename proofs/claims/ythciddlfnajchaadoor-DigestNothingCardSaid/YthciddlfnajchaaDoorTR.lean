/- Accounts of this seat's functions: lemmas, no statement of their own. No conditions. -/
import Derived.Test.YthciddlfnajchaaDoorV5
import Derived.Test.YthciddlfnajchaaDoorTA
import Derived.RangeFuncBox
import Derived.Shelf.Abstract
import Derived.OwnWalkIn
import Derived.TacticsInMore
import Derived.LoopNIn
import Derived.LoopIn
namespace Go.Proofs.Tryd
open Go Go.Vx Go.RowKit Go.Shelf
section
attribute [local go_sem] Oper.semAt_some

set_option maxRecDepth 100000 in
set_option maxHeartbeats 2000000 in
theorem since_has (bR oR bN oN b base b1 o1 cap : Nat) (xs : List (List Int)) (hfit : xs.length ≤ 9223372036854775807) :
    IterOk Tryd.prog 50 #[.pointer (some ⟨bR, oR, none⟩), .pointer (some ⟨bN, oN, none⟩)] evV xs (LogK bR oR bN oN b base b1 o1 cap xs) := by
  intro l J hK hY W h0
  have hk0 := hK _ _ h0
  refine callsIn_of_wp Tryd.func50 rfl trivial ?_ rfl
  simp only [Tryd.ntmps50, List.size_toArray, List.length_cons, List.length_nil, Nat.reduceAdd, Nat.reduceSub, Array.replicate_succ, Array.replicate_zero, List.push_toArray, List.append_toArray, List.nil_append, List.cons_append]
  have hr := hk0.r
  have hn := hk0.n
  have hs := hk0.s
  gi_wp2
  gi_loopw [5] (fun i wr => ∃ k : Nat, k ≤ xs.length ∧ i = .int .i64 k ∧ J (xs.take k) wr)
    (fun i _ => xs.length - (intOf i).toNat)
  case atStart => exact ⟨0, Nat.zero_le _, rfl, h0⟩
  case round =>
    obtain ⟨k, hk, rfl, hJs⟩ := hrel
    have hkk := hK _ _ hJs
    by_cases hlt : k < xs.length
    · have hx : xs = xs.take k ++ xs.getD k [] :: xs.drop (k + 1) := by
        conv => lhs; rw [← List.take_append_drop k xs, List.drop_eq_getElem_cons hlt]
        simp [hlt]
      obtain ⟨fn, tmps, assign, body, hy, hR⟩ := hY _ _ _ wr hx hJs
      have e0 := hkk.c0 k hlt
      have e1 := hkk.c1 k hlt
      unfold evV at hy
      clear hx
      generalize (xs.getD k []).getD 0 0 = v0 at hy e0
      generalize (xs.getD k []).getD 1 0 = v1 at hy e1
      gi_wp2
      refine ⟨rfl, hR.mono ?_⟩
      rintro e W3 ⟨rfl, hJ3⟩
      gi_wp2
      go_roundw
      case rel => exact ⟨k + 1, by omega, by simp, by rw [List.take_add_one]; simpa [hlt] using hJ3⟩
      case measure => simp [intOf]; omega
    · obtain rfl : k = xs.length := by omega
      gi_wp2
      go_end0
      exact ⟨⟨_, rfl⟩, by simpa using hJs⟩

set_option maxRecDepth 100000 in
set_option maxHeartbeats 2000000 in
theorem since_non (bR oR bN oN b base : Nat) :
    IterOk Tryd.prog 50 #[.pointer (some ⟨bR, oR, none⟩), .pointer (some ⟨bN, oN, none⟩)] evV [] (LogN bR oR bN oN b base) := by
  intro l J hK hY W h0
  have hk0 := hK _ _ h0
  refine callsIn_of_wp Tryd.func50 rfl trivial ?_ rfl
  simp only [Tryd.ntmps50, List.size_toArray, List.length_cons, List.length_nil, Nat.reduceAdd, Nat.reduceSub, Array.replicate_succ, Array.replicate_zero, List.push_toArray, List.append_toArray, List.nil_append, List.cons_append]
  have hr := hk0.r
  have hn := hk0.n
  have hs := hk0.s
  gi_wp2
  gi_loopw [5] (fun i wr => i = .int .i64 0 ∧ J [] wr) (fun _ _ => 0)
  case atStart => exact ⟨rfl, h0⟩
  case round =>
    obtain ⟨rfl, hJs⟩ := hrel
    gi_wp2
    go_end0
    exact ⟨⟨_, rfl⟩, hJs⟩
end

theorem since_ok : SinceOk Tryd.prog 50 := ⟨since_has, since_non⟩
noncomputable def evParts : RParts := rparts Tryd.f22.body
theorem events_acc (l : List (List Int)) (hl : l.length * 16 ≤ 2 ^ 47) : FnOk gx 22 [.ptr 0 0] [.log l] { val := .own 1, new := [.rows [.i64, .i64] l], C := [l.length * 16 ≤ 2 ^ 47] } :=
  events_ok (g := gx) gx_ok (f := 22) (gf := 50) (fn := Tryd.f22) (r := evParts) (m := 60) Tryd.func22 (by kernel_rfl) (by kernel_rfl) (by kernel_rfl) (by kernel_rfl) (by kernel_rfl) (by kernel_rfl)
    (enters_of Tryd.func50 (by kernel_rfl) rfl) since_ok (by constructor <;> kernel_rfl) hl
    (fun n => by kernel_rfl) (fun n pre a b => by kernel_rfl) (fun n pre => by kernel_rfl)
end Go.Proofs.Tryd
