/-
  Models of functions whose walks are made by hand: copies of lists of integers; the length of a month.
-/
import Derived.Test.YtmnhfaaaaejpaaaGreatCptM
import Derived.Test.YtmnhfaaaaejpaaaGreatManMC
namespace Go.Proofs.YtmnhfaaaaejpaaaGreat
open Go.RowKit
def m_clone_i1 (_O : Ops) (l : List Int) : Option (List Int) := grd (okRoom l.length) <| some l
theorem m_clone_i1_eq (l : List Int) : m_clone_i1 std l = ((grd (okRoom l.length) <| some l) : Option (List Int)) := rfl
def m_clone_i2 (_O : Ops) (l : List (Int × Int)) : Option (List (Int × Int)) := grd (okRoom l.length) <| some l
theorem m_clone_i2_eq (l : List (Int × Int)) : m_clone_i2 std l = ((grd (okRoom l.length) <| some l) : Option (List (Int × Int))) := rfl
end Go.Proofs.YtmnhfaaaaejpaaaGreat
