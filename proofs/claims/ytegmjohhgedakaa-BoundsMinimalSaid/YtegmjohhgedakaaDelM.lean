/-
  slices.Delete of integers: its model.
-/
import Derived.Test.YtegmjohhgedakaaBM
namespace Go.Proofs.Ytegmjohhgedakaa
open Go.RowKit
def m_delI (_O : Ops) (l : List Int) (a b : Int) : Option (List Int) := grd (decide (0 ≤ a ∧ a < b ∧ b ≤ ((l.length : Nat) : Int) ∧ l.length ≤ 1099511627776)) <| some (l.take a.toNat ++ l.drop b.toNat)
theorem m_delI_eq (l : List Int) (a b : Int) : m_delI std l a b = ((grd (decide (0 ≤ a ∧ a < b ∧ b ≤ ((l.length : Nat) : Int) ∧ l.length ≤ 1099511627776)) <| some (l.take a.toNat ++ l.drop b.toNat)) : Option (List Int)) := rfl
end Go.Proofs.Ytegmjohhgedakaa
