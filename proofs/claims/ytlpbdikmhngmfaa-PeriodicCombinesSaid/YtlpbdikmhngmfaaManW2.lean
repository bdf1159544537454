/-
  The reference's product does what its model says.
-/
import Derived.Test.YtlpbdikmhngmfaaManM2
import Derived.Test.YtlpbdikmhngmfaaManW
namespace Go.Proofs.Ytlpbdikmhngmfaa
open Go.RowKit
theorem wrap_quo (a b : Int) (ha : 1 ≤ a ∧ a ≤ 1099511627776) (hb : 1 ≤ b ∧ b ≤ 1099511627776) : (fits (a * b) = true → wrap64 (a * b) = a * b) ∧ (wrap64 ((wrap64 (a * b)).tdiv b) != a) = !fits (a * b) := by
  obtain ⟨x, hx⟩ : ∃ x, a * b = x := ⟨_, rfl⟩
  rw [hx]
  obtain ⟨k, hk, h1, h2⟩ : ∃ k : Int, wrap64 x = x + 18446744073709551616 * k ∧ -9223372036854775808 ≤ wrap64 x ∧ wrap64 x ≤ 9223372036854775807 := by
    unfold wrap64
    exact ⟨-((x + 9223372036854775808) / 18446744073709551616), by omega⟩
  have hf : fits x = true ↔ -9223372036854775808 ≤ x ∧ x ≤ 9223372036854775807 := fits_iff
  obtain ⟨p, hp⟩ : ∃ p, wrap64 x = p := ⟨_, rfl⟩
  rw [hp] at hk h1 h2 ⊢
  refine ⟨fun h => by have := hf.1 h; omega, ?_⟩
  have hw : wrap64 (p.tdiv b) = p.tdiv b := by
    have h3 : -9223372036854775808 ≤ p.tdiv b ∧ p.tdiv b ≤ 9223372036854775807 := by
      rcases Int.lt_or_le p 0 with hn | hn
      · have e : p = -(-p) := by omega
        have h4 : (-p).tdiv b = (-p) / b := Int.tdiv_eq_ediv_of_nonneg (by omega)
        have h5 : p.tdiv b = -((-p) / b) := by rw [← h4, ← Int.neg_tdiv]; rw [Int.neg_neg]
        have h6 : 0 ≤ (-p) / b := Int.ediv_nonneg (by omega) (by omega)
        have h7 : (-p) / b ≤ -p := Int.ediv_le_self _ (by omega)
        omega
      · have h4 : p.tdiv b = p / b := Int.tdiv_eq_ediv_of_nonneg hn
        have h6 : 0 ≤ p / b := Int.ediv_nonneg (by omega) (by omega)
        have h7 : p / b ≤ p := Int.ediv_le_self _ (by omega)
        omega
    unfold wrap64
    omega
  rw [hw]
  cases hfx : fits x with
  | true =>
    have := hf.1 hfx
    have e : p = x := by omega
    rw [e, ← hx, Int.mul_tdiv_cancel _ (by omega)]
    simp
  | false =>
    have hnf : ¬ (-9223372036854775808 ≤ x ∧ x ≤ 9223372036854775807) := fun h => by rw [hf.2 h] at hfx; cases hfx
    have hne : p.tdiv b ≠ a := by
      intro he
      rcases Int.lt_or_le p 0 with hn | hn
      · have e : p.tdiv b = -((-p) / b) := by rw [← Int.tdiv_eq_ediv_of_nonneg (by omega), ← Int.neg_tdiv, Int.neg_neg]
        have h6 : 0 ≤ (-p) / b := Int.ediv_nonneg (by omega) (by omega)
        omega
      · rw [Int.tdiv_eq_ediv_of_nonneg hn] at he
        have h3 := Int.emod_add_mul_ediv p b
        have h4 := Int.emod_nonneg p (show b ≠ 0 by omega)
        have h5 := Int.emod_lt_of_pos p (show 0 < b by omega)
        rw [he, Int.mul_comm, hx] at h3
        omega
    simp [hne]
theorem refmul_any (a b : Int) (ha : 1 ≤ a ∧ a ≤ 1099511627776) (hb : 1 ≤ b ∧ b ≤ 1099511627776) (w : World) :
    Calls Try.prog 93 #[.int .i64 a, .int .i64 b] w fun e w' => e = .returned (.tuple #[.int .i64 (if fits (a * b) then a * b else 0), .int .i64 (if fits (a * b) then 0 else 9)]) ∧ w = w' := by
  have a0 : (a == 0) = false := by simp; omega
  have b0 : (b == 0) = false := by simp; omega
  have a1 : (a == -9223372036854775808) = false := by simp; omega
  have b1 : (b == -9223372036854775808) = false := by simp; omega
  obtain ⟨h1, h2⟩ := wrap_quo a b ha hb
  cases hf : fits (a * b) with
  | true =>
    have h3 := h1 hf
    rw [hf] at h2
    simp only [Bool.not_true] at h2
    simp only [if_true]
    have key : Calls Try.prog 93 #[.int .i64 a, .int .i64 b] w fun e w' => e = .returned (.tuple #[.int .i64 (wrap64 (a * b)), .int .i64 0]) ∧ w = w' := by
      clear h1 h3
      go_enter Try.func93, Try.ntmps93
      go_wp2
      go_ret2
      exact ⟨rfl, rfl⟩
    rw [h3] at key
    exact key
  | false =>
    clear h1
    rw [hf] at h2
    simp only [Bool.not_false] at h2
    simp only [Bool.false_eq_true, if_false]
    go_enter Try.func93, Try.ntmps93
    go_wp2
    go_ret2
    exact ⟨rfl, rfl⟩
theorem fn_ref01_Mul {O0 : Ops} (_hO0 : O0 = std) {a b r1 r2 : Int} (h : m_ref01_Mul O0 a b = some (r1, r2)) :
    Fn Try.prog 93 [.c (.int .i64 a), .c (.int .i64 b)] [] (fun v c => v = .tup [.one (.int .i64 r1), .one (.int .i64 r2)] ∧ c = []) := by
  unfold m_ref01_Mul at h
  obtain ⟨ha, h⟩ := grdS h
  obtain ⟨hb, h⟩ := grdS h
  have ha := of_decide_eq_true ha
  have hb := of_decide_eq_true hb
  have hab : (if fits (a * b) then a * b else 0) = r1 ∧ (if fits (a * b) then (0 : Int) else 9) = r2 := by
    cases hf : fits (a * b) <;> rw [hf] at h <;> cases h <;> exact ⟨rfl, rfl⟩
  refine fn_old [.int .i64 a, .int .i64 b] (.tuple #[.int .i64 r1, .int .i64 r2]) (fun w => (refmul_any a b ha hb w).mono fun e w' ⟨h, hw⟩ => ⟨by rw [h, hab.1, hab.2], by rw [hw]; exact Below.refl _ _⟩) (fun fs => rfl) (fun fs => rfl)
end Go.Proofs.Ytlpbdikmhngmfaa
