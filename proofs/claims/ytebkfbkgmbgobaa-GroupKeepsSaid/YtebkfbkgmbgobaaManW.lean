/-
  integer.Mul does what its model says.
-/
import Derived.Test.YtebkfbkgmbgobaaManM
import Derived.Test.YtebkfbkgmbgobaaMul
import Derived.Test.YtebkfbkgmbgobaaMul
import Derived.Test.YtebkfbkgmbgobaaTabEq
namespace Go.Proofs.Ytebkfbkgmbgobaa
open Go.RowKit
theorem fits_iff {x : Int} : fits x = true ↔ -9223372036854775808 ≤ x ∧ x ≤ 9223372036854775807 := by simp [fits]
theorem fn_integer_Mul {O0 : Ops} (_hO0 : O0 = std) {a b r1 r2 : Int} (h : m_integer_Mul O0 a b = some (r1, r2)) :
    Fn Try.prog 67 [.c (.int .i64 a), .c (.int .i64 b)] [] (fun v c => v = .tup [.one (.int .i64 r1), .one (.int .i64 r2)] ∧ c = []) := by
  unfold m_integer_Mul at h
  obtain ⟨ha, h⟩ := grdS h
  obtain ⟨hb, h⟩ := grdS h
  have ha := fits_iff.1 ha
  have hb := fits_iff.1 hb
  have hab : (if fitB (a * b) then a * b else 0) = r1 ∧ (if fitB (a * b) then (0 : Int) else 9) = r2 := by
    have e : fitB (a * b) = fits (a * b) := rfl
    rw [e]
    cases hf : fits (a * b) <;> rw [hf] at h <;> cases h <;> exact ⟨rfl, rfl⟩
  refine fn_old [.int .i64 a, .int .i64 b] (.tuple #[.int .i64 r1, .int .i64 r2]) (fun w => (imul_any a b ha.1 ha.2 hb.1 hb.2 w).mono fun e w' ⟨h, hw⟩ => ⟨by rw [h, hab.1, hab.2], by rw [hw]; exact Below.refl _ _⟩) (fun fs => rfl) (fun fs => rfl)
end Go.Proofs.Ytebkfbkgmbgobaa
