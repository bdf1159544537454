/-
  The walk of GroupHulls, as the row takes it.
-/
import Derived.Test.YtoklfjkanipjkaaArr
import Derived.Test.YtoklfjkanipjkaaGW19
import Derived.Test.YtoklfjkanipjkaaPHulls
namespace Go.Proofs.Ytoklfjkanipjkaa
open Go.RowKit
theorem groupHulls_walk (o p : Int) (A : Option Addr) (c : Nat) (l : List Sp) (n1 n2 n3 : Int) (w : World) (h : SpsR w A l) (hc : l.length ≤ c) (hm : c ≤ maxLen) :
    Calls Try.prog 8 #[.agg #[.int .i64 o, .int .i64 p, .slice A l.length c], .int .i64 n1, .int .i64 n2, .int .i64 n3] w fun e w' => e = .returned (.bool true) ∧ Below w.heap.size w w' := by
  refine fn_true (fn_law16_GroupHulls rfl (pl_GroupHulls o p n1 n2 n3 l)) w [.arr false A c .i2 l] rfl (hok_ro fun d hd => ?_) _ rfl
  simp at hd
  subst hd
  exact sps_arr h hc hm
end Go.Proofs.Ytoklfjkanipjkaa
