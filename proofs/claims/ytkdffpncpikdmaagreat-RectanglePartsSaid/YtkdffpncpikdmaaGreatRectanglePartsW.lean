/-
  The walk of RectangleParts, as the row takes it.
-/
import Derived.Test.YtkdffpncpikdmaaGreatArrR
import Derived.Test.YtkdffpncpikdmaaGreatZW10
import Derived.Test.YtkdffpncpikdmaaGreatZP2
namespace Go.Proofs.YtkdffpncpikdmaaGreat
open Go.RowKit
theorem rectangleParts_walk (A0 : Option Addr) (c0 : Nat) (l0 : List (Int × Int × Int × Int)) (n1 : Int) (n2 : Int) (w : World) (h0 : RcsR w A0 l0) (hc0 : l0.length ≤ c0) (hm0 : c0 ≤ maxLen) :
    Calls Tryz.prog 3 #[.slice A0 l0.length c0, .int .i64 n1, .int .i64 n2] w fun e w' => e = .returned (.bool true) ∧ Below w.heap.size w w' := by
  refine fn_true (fn_law35_RectangleParts rfl (pl_RectangleParts n1 n2 l0)) w [.arr false A0 c0 .i4 l0] rfl (hok_ro fun d hd => ?_) _ rfl
  simp at hd
  subst hd
  exact rcs_arr h0 hc0 hm0
end Go.Proofs.YtkdffpncpikdmaaGreat
