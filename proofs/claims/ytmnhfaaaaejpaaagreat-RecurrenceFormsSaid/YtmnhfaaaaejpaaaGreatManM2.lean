/-
  Models of functions whose walks are made by hand: the reference's product.
-/
import Derived.Test.YtmnhfaaaaejpaaaGreatSrtM
namespace Go.Proofs.YtmnhfaaaaejpaaaGreat
open Go.RowKit
theorem std_eq_self {O : Ops} (hO : O = std) (a : Int) : O .eq a a = true := by subst hO; show (a == a) = true; simp
theorem std_neq_self {O : Ops} (hO : O = std) (a : Int) : O .not (O .eq a a) = false := by subst hO; show (!(a == a)) = false; simp
theorem allp {α β : Type} {Q : α × β → Prop} (h : ∀ a b, Q (a, b)) : ∀ y, Q y := fun y => h y.1 y.2
/-- a call whose result is known -/
theorem call_is {P : Program} {n0 : Nat} {R0 : AV → List Ck → Prop} {O : Ops} {X : Cx} (hO : O = std) (hX : Good P n0 R0 X) {q : Bool} {f : FuncId} {avs0 avs : List AV} {cks0 : List Ck} {V : AV} {C : List Ck} {s : St} {K : AV → St → Prop} (h : Fn P f avs0 cks0 (fun v c => v = V ∧ c = C)) (hcB : callB P f = true) (m : List Nat) (hlen : Nat.ble s.hp.length 100000 = true)
    (hm : vwHp m s.hp m cks0) (ha : avs = avs0.map (renA m)) (hK : K (renA (m ++ iota s.hp.length C.length) V) ⟨s.fr, s.hp ++ C.map (renK (m ++ iota s.hp.length C.length))⟩) : X .call q f avs s K :=
  call_go hO hX h hcB m hlen hm ha (by rintro _ _ ⟨rfl, rfl⟩; exact hK)
def m_ref01_Mul (_O : Ops) (a b : Int) : Option (Int × Int) := grd (decide (1 ≤ a ∧ a ≤ 1099511627776)) <| grd (decide (1 ≤ b ∧ b ≤ 1099511627776)) <| some (bif fits (a * b) then (a * b, 0) else (0, 9))
end Go.Proofs.YtmnhfaaaaejpaaaGreat
