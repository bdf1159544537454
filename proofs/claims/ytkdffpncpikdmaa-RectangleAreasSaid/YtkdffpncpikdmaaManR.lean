/-
  Models of functions whose walks are made by hand: copies, rows made ahead, products of 64 bits.
-/
import Derived.Test.YtkdffpncpikdmaaCptM
import Derived.Test.YtkdffpncpikdmaaManM2
namespace Go.Proofs.Ytkdffpncpikdmaa
open Go.RowKit
def m_clone_i2 (_O : Ops) (l : List (Int × Int)) : Option (List (Int × Int)) := grd (okRoom l.length) <| some l
theorem m_clone_i2_eq (l : List (Int × Int)) : m_clone_i2 std l = ((grd (okRoom l.length) <| some l) : Option (List (Int × Int))) := rfl
def m_grow_i4 (_O : Ops) (n : Int) : Option (List (Int × Int × Int × Int)) := grd (decide (0 ≤ n ∧ n ≤ 1099511627776)) <| some []
theorem m_grow_i4_eq (n : Int) : m_grow_i4 std n = ((grd (decide (0 ≤ n ∧ n ≤ 1099511627776)) <| some []) : Option (List (Int × Int × Int × Int))) := rfl
def okU (x : Int) : Bool := decide (0 ≤ x ∧ x < 18446744073709551616)
def m_bits_Mul64 (_O : Ops) (x y : Int) : Option (Int × Int) := grd (okU x) <| grd (okU y) <| some (x * y / 18446744073709551616, x * y % 18446744073709551616)
def m_bits_Add64 (_O : Ops) (x y c : Int) : Option (Int × Int) := grd (okU x) <| grd (okU y) <| grd (c == 0) <| some ((x + y) % 18446744073709551616, (x + y) / 18446744073709551616)
def m_ref01_Add (_O : Ops) (a b : Int) : Option (Int × Int) := grd (decide (0 ≤ a ∧ a ≤ 9223372036854775807)) <| grd (decide (0 ≤ b ∧ b ≤ 9223372036854775807)) <| some (bif fits (a + b) then (a + b, 0) else (0, 9))
end Go.Proofs.Ytkdffpncpikdmaa
