/-
  The walk of RectangleAlgebra, as the row takes it.
-/
import Derived.Test.YtkdffpncpikdmaaArrR
import Derived.Test.YtkdffpncpikdmaaRW27
import Derived.Test.YtkdffpncpikdmaaT11
namespace Go.Proofs.Ytkdffpncpikdmaa
open Go.RowKit
theorem rectangleAlgebra_walk (A0 : Option Addr) (c0 : Nat) (l0 : List (Int × Int × Int × Int)) (A1 : Option Addr) (c1 : Nat) (l1 : List (Int × Int × Int × Int)) (A2 : Option Addr) (c2 : Nat) (l2 : List (Int × Int × Int × Int)) (w : World) (h0 : RcsR w A0 l0) (hc0 : l0.length ≤ c0) (hm0 : c0 ≤ maxLen) (h1 : RcsR w A1 l1) (hc1 : l1.length ≤ c1) (hm1 : c1 ≤ maxLen) (h2 : RcsR w A2 l2) (hc2 : l2.length ≤ c2) (hm2 : c2 ≤ maxLen) :
    Calls Try.prog 8 #[.slice A0 l0.length c0, .slice A1 l1.length c1, .slice A2 l2.length c2] w fun e w' => e = .returned (.bool true) ∧ Below w.heap.size w w' := by
  refine fn_true (fn_law35_RectangleAlgebra rfl (pl_RectangleAlgebra l0 l1 l2)) w [.arr false A0 c0 .i4 l0, .arr false A1 c1 .i4 l1, .arr false A2 c2 .i4 l2] rfl (hok_ro fun d hd => ?_) _ rfl
  simp at hd
  rcases hd with rfl | rfl | rfl
  · exact rcs_arr h0 hc0 hm0
  · exact rcs_arr h1 hc1 hm1
  · exact rcs_arr h2 hc2 hm2
end Go.Proofs.Ytkdffpncpikdmaa
