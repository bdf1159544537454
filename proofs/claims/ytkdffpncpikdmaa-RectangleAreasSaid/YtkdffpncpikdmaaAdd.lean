/-
  A symbolic run: bits.Add64, which the model answers itself. No program here.
-/
import Derived.Test.YtkdffpncpikdmaaManR
import Derived.Test.YtkdffpncpikdmaaSymUse
import Derived.Shelf.Spec.BitsCarry
namespace Go.Proofs.Ytkdffpncpikdmaa
open Go.RowKit
section
variable {P : Program} {ρ : Go.Shelf.Ren}
theorem call_add64 (L : Lays7.n25 P ρ) {f : Nat} (hf : f = ρ.f 25) {n0 : Nat} {R : AV → List Ck → Prop} {O : Ops} {X : Cx} (_hO : O = std) (hX : Good P n0 R X) {q : Bool} {x y c r1 r2 : Int} {s : St} {K : AV → St → Prop} (hv : m_bits_Add64 O x y c = some (r1, r2)) (hK : K (.tup [.one (.int .u64 r1), .one (.int .u64 r2)]) s) :
    X .call q f [.c (.int .u64 x), .c (.int .u64 y), .c (.int .u64 c)] s K := by
  subst hf
  obtain ⟨w0, F0, Q0, _, _, rfl, _⟩ := hX
  unfold m_bits_Add64 at hv
  obtain ⟨h1, hv⟩ := grdS hv
  obtain ⟨h2, hv⟩ := grdS hv
  obtain ⟨h3, hv⟩ := grdS hv
  have h1 : 0 ≤ x ∧ x < 18446744073709551616 := of_decide_eq_true h1
  have h2 : 0 ≤ y ∧ y < 18446744073709551616 := of_decide_eq_true h2
  have h3 : c = 0 := eq_of_beq h3
  subst h3
  obtain ⟨a, rfl⟩ : ∃ a : Nat, x = (a : Int) := ⟨x.toNat, by omega⟩
  obtain ⟨b, rfl⟩ : ∃ b : Nat, y = (b : Int) := ⟨y.toNat, by omega⟩
  have hv := Option.some.inj hv
  obtain ⟨rfl, rfl⟩ := Prod.mk.inj hv
  refine Or.inl fun hp w hck hok vs hvs => ?_
  have hvs' : vs = [.int .u64 (a : Int), .int .u64 (b : Int), .int .u64 0] := by
    simp only [List.map_cons, List.map_nil, AV.val, Ce.val, allv, Option.some.injEq] at hvs
    exact hvs.symm
  subst hvs'
  have hr := Any7.bits_Add64 L a b 0 (by omega) w
  refine ⟨_, .tuple #[.int .u64 (((a : Int) + (b : Int)) % 18446744073709551616), .int .u64 (((a : Int) + (b : Int)) / 18446744073709551616)], hp, ?_, .inr rfl, FsLe.refl _, hok, fun _ => ⟨Below.refl _ _, News.nil _ _⟩, by rw [hck]; exact hK⟩
  have e1 : ((a : Int) + (b : Int)) % 18446744073709551616 = (((a + b + 0) % 18446744073709551616 : Nat) : Int) := by omega
  have e2 : ((a : Int) + (b : Int)) / 18446744073709551616 = (((a + b + 0) / 18446744073709551616 : Nat) : Int) := by omega
  rw [e1, e2]
  exact hr
end
end Go.Proofs.Ytkdffpncpikdmaa
