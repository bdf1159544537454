/-
  Models of functions whose walks are made by hand: copies of lists, slices.Repeat of one number.
-/
import Derived.Test.YtegmjohhgedakaaCptM
import Derived.Test.YtegmjohhgedakaaManM2
namespace Go.Proofs.Ytegmjohhgedakaa
open Go.RowKit
def m_clone_i1 (_O : Ops) (l : List Int) : Option (List Int) := grd (okRoom l.length) <| some l
theorem m_clone_i1_eq (l : List Int) : m_clone_i1 std l = ((grd (okRoom l.length) <| some l) : Option (List Int)) := rfl
def m_clone_i3 (_O : Ops) (l : List (Int × Int × Int)) : Option (List (Int × Int × Int)) := grd (okRoom l.length) <| some l
theorem m_clone_i3_eq (l : List (Int × Int × Int)) : m_clone_i3 std l = ((grd (okRoom l.length) <| some l) : Option (List (Int × Int × Int))) := rfl
def m_rep_i1 (_O : Ops) (n : Int) (l : List Int) : Option (List Int) := grd (decide (l.length = 1 ∧ 0 ≤ n ∧ n ≤ 1000000)) <| some (List.replicate n.toNat (l.getD 0 0))
theorem m_rep_i1_eq (n : Int) (l : List Int) : m_rep_i1 std n l = ((grd (decide (l.length = 1 ∧ 0 ≤ n ∧ n ≤ 1000000)) <| some (List.replicate n.toNat (l.getD 0 0))) : Option (List Int)) := rfl
end Go.Proofs.Ytegmjohhgedakaa
