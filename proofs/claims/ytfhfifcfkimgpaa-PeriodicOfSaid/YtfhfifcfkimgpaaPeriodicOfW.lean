/-
  The walk of PeriodicOf, as the row takes it.
-/
import Derived.Test.YtfhfifcfkimgpaaArr
import Derived.Test.YtfhfifcfkimgpaaJW12
import Derived.Test.YtfhfifcfkimgpaaHC
namespace Go.Proofs.Ytfhfifcfkimgpaa
open Go.RowKit
theorem periodicOf_walk (n0 : Int) (A1 : Option Addr) (c1 : Nat) (l1 : List Sp) (w : World) (h1 : SpsR w A1 l1) (hc1 : l1.length ≤ c1) (hm1 : c1 ≤ maxLen) :
    Calls Try.prog 4 #[.int .i64 n0, .slice A1 l1.length c1] w fun e w' => e = .returned (.bool true) ∧ Below w.heap.size w w' := by
  refine fn_true (fn_law13_PeriodicOf rfl (pl_PeriodicOf n0 l1)) w [.arr false A1 c1 .i2 l1] rfl (hok_ro fun d hd => ?_) _ rfl
  simp at hd
  subst hd
  exact sps_arr h1 hc1 hm1
end Go.Proofs.Ytfhfifcfkimgpaa
