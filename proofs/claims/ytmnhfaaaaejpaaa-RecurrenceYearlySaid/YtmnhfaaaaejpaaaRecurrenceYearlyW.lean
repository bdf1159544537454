/-
  The walk of RecurrenceYearly, as the row takes it.
-/
import Derived.Test.YtmnhfaaaaejpaaaArr
import Derived.Test.YtmnhfaaaaejpaaaNW10
import Derived.Test.YtmnhfaaaaejpaaaN2
namespace Go.Proofs.Ytmnhfaaaaejpaaa
open Go.RowKit
theorem recurrenceYearly_walk (n0 : Int) (n1 : Int) (n2 : Int) (w : World) (ha0 : 0 ≤ n0) (hz0 : n0 ≤ 255) :
    Calls Try.prog 5 #[.int .u8 n0, .int .i64 n1, .int .i64 n2] w fun e w' => e = .returned (.bool true) ∧ Below w.heap.size w w' := by
  refine fn_true (fn_law29_RecurrenceYearly rfl (pl_RecurrenceYearly n0 n1 n2 ha0 hz0)) w [] rfl (hok_ro fun d hd => by simp at hd) _ rfl
end Go.Proofs.Ytmnhfaaaaejpaaa
