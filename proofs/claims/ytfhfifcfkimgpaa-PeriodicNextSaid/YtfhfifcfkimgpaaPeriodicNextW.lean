/-
  The walk of PeriodicNext, as the row takes it.
-/
import Derived.Test.YtfhfifcfkimgpaaArr
import Derived.Test.YtfhfifcfkimgpaaJW31
import Derived.Test.YtfhfifcfkimgpaaHB
namespace Go.Proofs.Ytfhfifcfkimgpaa
open Go.RowKit
theorem periodicNext_walk (p0 : Int) (A0 : Option Addr) (c0 : Nat) (l0 : List Sp) (n1 : Int) (w : World) (h0 : SpsR w A0 l0) (hc0 : l0.length ≤ c0) (hm0 : c0 ≤ maxLen) :
    Calls Try.prog 12 #[.agg #[.int .i64 p0, .slice A0 l0.length c0], .int .i64 n1] w fun e w' => e = .returned (.bool true) ∧ Below w.heap.size w w' := by
  refine fn_true (fn_law13_PeriodicNext rfl (pl_PeriodicNext p0 n1 l0)) w [.arr false A0 c0 .i2 l0] rfl (hok_ro fun d hd => ?_) _ rfl
  simp at hd
  subst hd
  exact sps_arr h0 hc0 hm0
end Go.Proofs.Ytfhfifcfkimgpaa
