/-
  The walk of GroupCustoms, as the row takes it.
-/
import Derived.Test.YtoklfjkanipjkaaArr
import Derived.Test.YtoklfjkanipjkaaGW16
import Derived.Test.YtoklfjkanipjkaaPCustoms
namespace Go.Proofs.Ytoklfjkanipjkaa
open Go.RowKit
theorem groupCustoms_walk (o p : Int) (A : Option Addr) (c : Nat) (l : List Sp) (n1 : Int) (A' : Option Addr) (c' : Nat) (ks : List Int) (B' : Option Addr) (d' : Nat) (ps : List Int) (w : World) (h : SpsR w A l) (hc : l.length ≤ c) (hm : c ≤ maxLen) (h' : IsR w A' ks) (hc' : ks.length ≤ c') (hm' : c' ≤ maxLen) (h2 : IsR w B' ps) (hc2 : ps.length ≤ d') (hm2 : d' ≤ maxLen) :
    Calls Try.prog 6 #[.agg #[.int .i64 o, .int .i64 p, .slice A l.length c], .int .i64 n1, .slice A' ks.length c', .slice B' ps.length d'] w fun e w' => e = .returned (.bool true) ∧ Below w.heap.size w w' := by
  refine fn_true (fn_law16_GroupCustoms rfl (pl_GroupCustoms o p n1 l ks ps)) w [.arr false A c .i2 l, .arr false A' c' .i1 ks, .arr false B' d' .i1 ps] rfl (hok_ro fun d hd => ?_) _ rfl
  simp at hd
  rcases hd with rfl | rfl | rfl
  · exact sps_arr h hc hm
  · exact is_arr h' hc' hm'
  · exact is_arr h2 hc2 hm2
end Go.Proofs.Ytoklfjkanipjkaa
