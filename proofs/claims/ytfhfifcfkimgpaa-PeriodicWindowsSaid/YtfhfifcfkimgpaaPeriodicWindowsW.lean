/-
  The walk of PeriodicWindows, as the row takes it.
-/
import Derived.Test.YtfhfifcfkimgpaaArr
import Derived.Test.YtfhfifcfkimgpaaJW29
import Derived.Test.YtfhfifcfkimgpaaHB
namespace Go.Proofs.Ytfhfifcfkimgpaa
open Go.RowKit
theorem periodicWindows_walk (p0 : Int) (A0 : Option Addr) (c0 : Nat) (l0 : List Sp) (f1 t1 : Int) (w : World) (h0 : SpsR w A0 l0) (hc0 : l0.length ≤ c0) (hm0 : c0 ≤ maxLen) :
    Calls Try.prog 11 #[.agg #[.int .i64 p0, .slice A0 l0.length c0], .agg #[.int .i64 f1, .int .i64 t1]] w fun e w' => e = .returned (.bool true) ∧ Below w.heap.size w w' := by
  refine fn_true (fn_law13_PeriodicWindows rfl (pl_PeriodicWindows p0 f1 t1 l0)) w [.arr false A0 c0 .i2 l0] rfl (hok_ro fun d hd => ?_) _ rfl
  simp at hd
  subst hd
  exact sps_arr h0 hc0 hm0
end Go.Proofs.Ytfhfifcfkimgpaa
