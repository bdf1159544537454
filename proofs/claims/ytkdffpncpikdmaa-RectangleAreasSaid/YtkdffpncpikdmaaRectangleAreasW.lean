/-
  The walk of RectangleAreas, as the row takes it.
-/
import Derived.Test.YtkdffpncpikdmaaArrR
import Derived.Test.YtkdffpncpikdmaaAW
import Derived.Test.YtkdffpncpikdmaaAL
namespace Go.Proofs.Ytkdffpncpikdmaa
open Go.RowKit
theorem rectangleAreas_walk (A0 : Option Addr) (c0 : Nat) (l0 : List (Int × Int × Int × Int)) (A1 : Option Addr) (c1 : Nat) (l1 : List (Int × Int × Int × Int)) (w : World) (h0 : RcsR w A0 l0) (hc0 : l0.length ≤ c0) (hm0 : c0 ≤ maxLen) (h1 : RcsR w A1 l1) (hc1 : l1.length ≤ c1) (hm1 : c1 ≤ maxLen) :
    Calls Try.prog 10 #[.slice A0 l0.length c0, .slice A1 l1.length c1] w fun e w' => e = .returned (.bool true) ∧ Below w.heap.size w w' := by
  refine fn_true (fn_areas rfl (pl_RectangleAreas l0 l1)) w [.arr false A0 c0 .i4 l0, .arr false A1 c1 .i4 l1] rfl (hok_ro fun d hd => ?_) _ rfl
  simp at hd
  rcases hd with rfl | rfl
  · exact rcs_arr h0 hc0 hm0
  · exact rcs_arr h1 hc1 hm1
end Go.Proofs.Ytkdffpncpikdmaa
