/-
  The code does what its models say (printed by lift.py).
-/
import Derived.Test.YtfhfifcfkimgpaaHM
import Derived.Test.YtfhfifcfkimgpaaManW2
namespace Go.Proofs.Ytfhfifcfkimgpaa
open Go.RowKit
set_option maxRecDepth 100000

set_option maxHeartbeats 40000000 in
theorem fn_ref13_limited {O0 : Ops} (hO0 : O0 = std) {p_1 : Int} {p_2 : List (Int × Int)} {e : ((Int × Int) ⊕ (Int × Int))} (h : m_ref13_limited O0 p_1 p_2 = some e) :
    Fn Try.prog 59 [.agg [.int .i64 p_1, .sl 0]] [.arr false .i2 p_2] (fun v c => match e with | .inl (r1, r2) => v = .tup [.many [.int .i64 r1, .raw (.slice none 0 0)], .one (.int .i64 r2)] ∧ c = [] | .inr ((r1, r2)) => v = .tup [.many [.int .i64 r1, .sl 0], .one (.int .i64 r2)] ∧ c = []) := by
  refine fn_run tab_holds eqs_holds mixed [] Try.func59 (by kernel_rfl) (by kernel_rfl) (Nat.le_of_ble_eq_true rfl) ?_
  intro O X hO hX
  rw [hO0, ← hO] at h
  unfold m_ref13_limited at h
  have h0 := h; clear h
  cbv
  rcases condS h0 with ⟨hc1, h0⟩ | ⟨hc1, h0⟩
  · rw [hc1]
    cbv
    cases h0
    exact fin_ok hX rfl ⟨[], _, _, ⟨rfl, rfl⟩, rfl, rfl, rfl, rfl, by cbv; try simp⟩
  · rw [hc1]
    cbv
    cases h0
    exact fin_ok hX rfl ⟨[], _, _, ⟨rfl, rfl⟩, rfl, rfl, rfl, rfl, by cbv; try simp⟩
end Go.Proofs.Ytfhfifcfkimgpaa
