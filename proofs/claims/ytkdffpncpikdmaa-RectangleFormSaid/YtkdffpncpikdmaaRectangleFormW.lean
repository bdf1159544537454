/-
  The walk of RectangleForm, as the row takes it.
-/
import Derived.Test.YtkdffpncpikdmaaArrR
import Derived.Test.YtkdffpncpikdmaaRW20
import Derived.Test.YtkdffpncpikdmaaT14
namespace Go.Proofs.Ytkdffpncpikdmaa
open Go.RowKit
theorem rectangleForm_walk (A0 : Option Addr) (c0 : Nat) (l0 : List (Int × Int × Int × Int)) (w : World) (h0 : RcsR w A0 l0) (hc0 : l0.length ≤ c0) (hm0 : c0 ≤ maxLen) :
    Calls Try.prog 4 #[.slice A0 l0.length c0] w fun e w' => e = .returned (.bool true) ∧ Below w.heap.size w w' := by
  refine fn_true (fn_law35_RectangleForm rfl (pl_RectangleForm l0)) w [.arr false A0 c0 .i4 l0] rfl (hok_ro fun d hd => ?_) _ rfl
  simp at hd
  subst hd
  exact rcs_arr h0 hc0 hm0
end Go.Proofs.Ytkdffpncpikdmaa
