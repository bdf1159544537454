/-
  The walk of RectangleOrder, as the row takes it.
-/
import Derived.Test.YtkdffpncpikdmaaArrR
import Derived.Test.YtkdffpncpikdmaaRW26
import Derived.Test.YtkdffpncpikdmaaT12
namespace Go.Proofs.Ytkdffpncpikdmaa
open Go.RowKit
theorem rectangleOrder_walk (A0 : Option Addr) (c0 : Nat) (l0 : List (Int × Int × Int × Int)) (n1 : Int) (n2 : Int) (n3 : Bool) (w : World) (h0 : RcsR w A0 l0) (hc0 : l0.length ≤ c0) (hm0 : c0 ≤ maxLen) (ha1 : 0 ≤ n1) (hz1 : n1 ≤ 255) :
    Calls Try.prog 6 #[.slice A0 l0.length c0, .int .u8 n1, .int .i64 n2, .bool n3] w fun e w' => e = .returned (.bool true) ∧ Below w.heap.size w w' := by
  refine fn_true (fn_law35_RectangleOrder rfl (pl_RectangleOrder n1 n2 n3 l0 ha1 hz1)) w [.arr false A0 c0 .i4 l0] rfl (hok_ro fun d hd => ?_) _ rfl
  simp at hd
  subst hd
  exact rcs_arr h0 hc0 hm0
end Go.Proofs.Ytkdffpncpikdmaa
