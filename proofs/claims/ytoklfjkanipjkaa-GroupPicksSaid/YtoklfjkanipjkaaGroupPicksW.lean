/-
  The walk of GroupPicks, as the row takes it.
-/
import Derived.Test.YtoklfjkanipjkaaArr
import Derived.Test.YtoklfjkanipjkaaGW14
import Derived.Test.YtoklfjkanipjkaaPPicks
namespace Go.Proofs.Ytoklfjkanipjkaa
open Go.RowKit
theorem groupPicks_walk (o p : Int) (A : Option Addr) (c : Nat) (l : List Sp) (n1 : Int) (A' : Option Addr) (c' : Nat) (ks : List Int) (w : World) (h : SpsR w A l) (hc : l.length ≤ c) (hm : c ≤ maxLen) (h' : IsR w A' ks) (hc' : ks.length ≤ c') (hm' : c' ≤ maxLen) :
    Calls Try.prog 5 #[.agg #[.int .i64 o, .int .i64 p, .slice A l.length c], .int .i64 n1, .slice A' ks.length c'] w fun e w' => e = .returned (.bool true) ∧ Below w.heap.size w w' := by
  refine fn_true (fn_law16_GroupPicks rfl (pl_GroupPicks o p n1 l ks)) w [.arr false A c .i2 l, .arr false A' c' .i1 ks] rfl (hok_ro fun d hd => ?_) _ rfl
  simp at hd
  rcases hd with rfl | rfl
  · exact sps_arr h hc hm
  · exact is_arr h' hc' hm'
end Go.Proofs.Ytoklfjkanipjkaa
