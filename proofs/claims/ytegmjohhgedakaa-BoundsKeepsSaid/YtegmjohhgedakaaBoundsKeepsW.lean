/-
  The walk of BoundsKeeps, as the row takes it.
-/
import Derived.Test.YtegmjohhgedakaaArrB
import Derived.Test.YtegmjohhgedakaaBW18
import Derived.Test.YtegmjohhgedakaaB7
namespace Go.Proofs.Ytegmjohhgedakaa
open Go.RowKit
theorem boundsKeeps_walk (A0 : Option Addr) (c0 : Nat) (l0 : List (Int × Int × Int)) (A1 : Option Addr) (c1 : Nat) (l1 : List Int) (n2 : Int) (n3 : Int) (w : World) (h0 : BdsR w A0 l0) (hc0 : l0.length ≤ c0) (hm0 : c0 ≤ maxLen) (h1 : IsR w A1 l1) (hc1 : l1.length ≤ c1) (hm1 : c1 ≤ maxLen) (ha2 : 0 ≤ n2) (hz2 : n2 ≤ 255) (ha3 : 0 ≤ n3) (hz3 : n3 ≤ 255) :
    Calls Try.prog 9 #[.slice A0 l0.length c0, .slice A1 l1.length c1, .int .u8 n2, .int .u8 n3] w fun e w' => e = .returned (.bool true) ∧ Below w.heap.size w w' := by
  refine fn_true (fn_law45_BoundsKeeps rfl (pl_BoundsKeeps n2 n3 l0 l1 ha2 hz2 ha3 hz3)) w [.arr false A0 c0 .i3 l0, .arr false A1 c1 .i1 l1] rfl (hok_ro fun d hd => ?_) _ rfl
  simp at hd
  rcases hd with rfl | rfl
  · exact bds_arr h0 hc0 hm0
  · exact is_arr h1 hc1 hm1
end Go.Proofs.Ytegmjohhgedakaa
