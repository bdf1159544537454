/-
  integer: what the models come to.
-/
import Derived.Test.YtoklfjkanipjkaaGQ
import Derived.Test.YtoklfjkanipjkaaPure
namespace Go.Proofs.Ytoklfjkanipjkaa
open Go.RowKit

/-- Go's quotient and remainder beside the floor's -/
theorem quo_cases (a b : Int) (ha1 : -9223372036854775808 ≤ a) (ha2 : a ≤ 9223372036854775807) (hb : 1 ≤ b) (hb2 : b ≤ 9223372036854775807) :
    (a.tmod b = 0 ∧ a.tdiv b = a / b ∧ a % b = 0 ∨ a.tmod b < 0 ∧ a.tdiv b - 1 = a / b ∧ a.tmod b + b = a % b ∨ 0 < a.tmod b ∧ a.tdiv b = a / b ∧ a.tmod b = a % b) ∧
    (-9223372036854775807 ≤ a.tdiv b ∨ a.tmod b = 0 ∧ -9223372036854775808 ≤ a.tdiv b) ∧ a.tdiv b ≤ 9223372036854775807 ∧ -9223372036854775807 ≤ a.tmod b ∧ a.tmod b ≤ 9223372036854775807 := by
  have hm := Int.tmod_add_mul_tdiv a b
  rcases Int.lt_or_le a 0 with hn | hn
  · have hb1 := tmod_bd a b hn hb
    have hb2 := tdiv_bd a b hn hb
    by_cases hr : a.tmod b = 0
    · have e2 := tdiv_zero' a b hb hr
      have e3 := tmod_zero' a b hr
      exact ⟨.inl ⟨hr, e2, e3.symm⟩, .inr ⟨hr, by omega⟩, by omega, by omega, by omega⟩
    · have e2 := tdiv_neg' a b hn hb hr
      have e3 := tmod_neg' a b hn hb hr
      refine ⟨.inr (.inl ⟨by omega, e2, e3⟩), .inl ?_, by omega, by omega, by omega⟩
      rcases Int.lt_or_le (a.tdiv b) (-9223372036854775807) with h | h
      · exfalso
        have h5 : a.tdiv b = -9223372036854775808 := by omega
        have h6 : b = 1 := by
          rcases Int.lt_or_le 1 b with h7 | h7
          · rw [h5] at hm; omega
          · omega
        subst h6
        simp at hr
      · exact h
  · have e1 : a.tdiv b = a / b := Int.tdiv_eq_ediv_of_nonneg hn
    have e2 : a.tmod b = a % b := Int.tmod_eq_emod_of_nonneg hn
    have hq : 0 ≤ a / b := Int.ediv_nonneg hn (by omega)
    have hq2 : a / b ≤ a := Int.ediv_le_self _ hn
    have hd := div_bd (a := a) hb
    rw [e1, e2]
    refine ⟨?_, .inl (by omega), by omega, by omega, by omega⟩
    rcases Int.lt_or_le 0 (a % b) with h | h
    · exact .inr (.inr ⟨h, rfl, rfl⟩)
    · exact .inl ⟨by omega, rfl, by omega⟩
theorem p_integer_Div (a b : Int) (ha1 : -9223372036854775808 ≤ a) (ha2 : a ≤ 9223372036854775807) (hb : 1 ≤ b) (hb2 : b ≤ 9223372036854775807) : m_integer_Div std a b = some (a / b, a % b, 0) := by
  rw [m_integer_Div_eq]
  obtain ⟨hc, hq1, hq2, hr1, hr2⟩ := quo_cases a b ha1 ha2 hb hb2
  have h0 : (b == 0) = false := eF (by omega)
  have h1 : (b == -1) = false := eF (by omega)
  have hz : okNz b = true := dT (by omega)
  have hb3 : decide (b < 0) = false := dF (by omega)
  generalize a.tdiv b = q at *
  generalize a.tmod b = r at *
  have e1 : okI .i64 q = true := by rw [okI64]; exact dT (by omega)
  rcases hc with ⟨rfl, rfl, hd⟩ | ⟨h2, h3, h4⟩ | ⟨h2, rfl, rfl⟩
  · simp [h0, h1, hz, grd, e1, hd]
  · have h5 : (r == 0) = false := eF (by omega)
    have hl : decide (r < 0) = true := dT h2
    have e4 : okI .i64 (q - 1) = true := by rw [okI64]; exact dT (by omega)
    have e5 : okI .i64 (r + b) = true := by rw [okI64]; exact dT (by omega)
    simp [h0, h1, hz, grd, e1, h5, hl, hb3, e4, e5]
    rw [← h3, ← h4]
    simp [e4, e5]
  · have h5 : (a % b == 0) = false := eF (by omega)
    have hl : decide (a % b < 0) = false := dF (by omega)
    simp [h0, h1, hz, grd, e1, h5, hl, hb3]
theorem p_ref01_Div (a b : Int) (ha1 : -9223372036854775808 ≤ a) (ha2 : a ≤ 9223372036854775807) (hb : 1 ≤ b) (hb2 : b ≤ 9223372036854775807) : m_ref01_Div std a b = some (a / b, a % b, 0) := by
  rw [m_ref01_Div_eq]
  obtain ⟨hc, hq1, hq2, hr1, hr2⟩ := quo_cases a b ha1 ha2 hb hb2
  have h0 : (b == 0) = false := eF (by omega)
  have h1 : (b == -1) = false := eF (by omega)
  have hz : okNz b = true := dT (by omega)
  have hb3 : decide (b < 0) = false := dF (by omega)
  generalize a.tdiv b = q at *
  generalize a.tmod b = r at *
  have e1 : okI .i64 q = true := by rw [okI64]; exact dT (by omega)
  rcases hc with ⟨rfl, rfl, hd⟩ | ⟨h2, h3, h4⟩ | ⟨h2, rfl, rfl⟩
  · simp [h0, h1, hz, grd, e1, hd]
  · have h5 : (r == 0) = false := eF (by omega)
    have hl : decide (r < 0) = true := dT h2
    have e4 : okI .i64 (q - 1) = true := by rw [okI64]; exact dT (by omega)
    have e5 : okI .i64 (r + b) = true := by rw [okI64]; exact dT (by omega)
    simp [h0, h1, hz, grd, e1, h5, hl, hb3, e4, e5]
    rw [← h3, ← h4]
    simp [e4, e5]
  · have h5 : (a % b == 0) = false := eF (by omega)
    have hl : decide (a % b < 0) = false := dF (by omega)
    simp [h0, h1, hz, grd, e1, h5, hl, hb3]
theorem p_integer_Floor (a b : Int) (ha1 : -9223372036854775808 ≤ a) (ha2 : a ≤ 9223372036854775807) (hb : 1 ≤ b) (hb2 : b ≤ 9223372036854775807) : m_integer_Floor std a b = some (a / b) := by
  rw [m_integer_Floor_eq, p_integer_Div a b ha1 ha2 hb hb2]; rfl
theorem p_integer_Mod (a b : Int) (ha1 : -9223372036854775808 ≤ a) (ha2 : a ≤ 9223372036854775807) (hb : 1 ≤ b) (hb2 : b ≤ 9223372036854775807) : m_integer_Mod std a b = some (a % b) := by
  rw [m_integer_Mod_eq, p_integer_Div a b ha1 ha2 hb hb2]; rfl
theorem p_ref01_Floor (a b : Int) (ha1 : -9223372036854775808 ≤ a) (ha2 : a ≤ 9223372036854775807) (hb : 1 ≤ b) (hb2 : b ≤ 9223372036854775807) : m_ref01_Floor std a b = some (a / b) := by
  rw [m_ref01_Floor_eq, p_ref01_Div a b ha1 ha2 hb hb2]; rfl

/-! common divisors -/
theorem gcd_step (a b : Nat) (hb : 0 < b) : ((a : Int)).tmod (b : Int) = ((a % b : Nat) : Int) := by
  rw [Int.tmod_eq_emod_of_nonneg (by omega)]; exact (Int.natCast_emod a b).symm
theorem p_integer_Gcd_L1 : ∀ (n a b : Nat), b < n → iter (m_integer_Gcd_L1 std) n ((a : Int), (b : Int)) = some (id ((Nat.gcd b a : Nat) : Int)) := by
  intro n
  induction n with
  | zero => intro a b h; omega
  | succ n ih =>
    intro a b h
    unfold iter
    rw [m_integer_Gcd_L1_eq]
    rcases Nat.eq_zero_or_pos b with h0 | h0
    · subst h0
      simp
    · have h1 : (((b : Nat) : Int) == 0) = false := eF (by omega)
      have h2 : (((b : Nat) : Int) == -1) = false := eF (by omega)
      have hz : okNz ((b : Nat) : Int) = true := dT (by omega)
      rw [gcd_step a b h0]
      simp only [h1, h2, hz, grd, Bool.not_false, cond_true, cond_false]
      rw [ih b (a % b) (by have := Nat.mod_lt a h0; omega), Nat.gcd_rec b a]
theorem p_ref01_Gcd_L1 : ∀ (n a b : Nat), b < n → iter (m_ref01_Gcd_L1 std) n ((a : Int), (b : Int)) = some (Sum.inr ((Nat.gcd b a : Nat) : Int)) := by
  intro n
  induction n with
  | zero => intro a b h; omega
  | succ n ih =>
    intro a b h
    unfold iter
    rw [m_ref01_Gcd_L1_eq]
    rcases Nat.eq_zero_or_pos b with h0 | h0
    · subst h0
      simp
    · have h1 : (((b : Nat) : Int) == 0) = false := eF (by omega)
      have h2 : (((b : Nat) : Int) == -1) = false := eF (by omega)
      have hz : okNz ((b : Nat) : Int) = true := dT (by omega)
      rw [gcd_step a b h0]
      simp only [h1, h2, hz, grd, Bool.not_false, cond_true, cond_false]
      rw [ih b (a % b) (by have := Nat.mod_lt a h0; omega), Nat.gcd_rec b a]
theorem p_integer_Gcd (a b : Nat) (ha : 1 ≤ a) (ha2 : a ≤ 9223372036854775807) (hb2 : b ≤ 9223372036854775807) : m_integer_Gcd std (a : Int) (b : Int) = some ((Nat.gcd a b : Nat) : Int) := by
  have hg : Nat.gcd b a ≤ a := Nat.gcd_le_right _ ha
  have hs : ∀ c : Nat, c ≤ 9223372036854775807 → m_integer_size std (c : Int) = some (c : Int) := fun c hc => by
    rw [m_integer_size_eq]
    exact bF (dF (by omega)) (gU (by omega) rfl)
  have hl : loop (m_integer_Gcd_L1 std) ((a : Int), (b : Int)) = some ((Nat.gcd b a : Nat) : Int) := p_integer_Gcd_L1 _ a b (by omega)
  rw [m_integer_Gcd_eq, hs a ha2, Option.bind_some, hs b hb2, Option.bind_some, hl, Option.bind_some, m_integer_signed_eq, Nat.gcd_comm a b]
  have h1 : decide (((Nat.gcd b a : Nat) : Int) ≤ 9223372036854775807) = true := dT (by omega)
  have h2 : okI .i64 ((Nat.gcd b a : Nat) : Int) = true := by rw [okI64]; exact dT (by omega)
  simp [h1, h2, grd]
theorem p_ref01_Gcd (a b : Nat) (ha : 1 ≤ a) (ha2 : a ≤ 9223372036854775807) (hb2 : b ≤ 9223372036854775807) : m_ref01_Gcd std (a : Int) (b : Int) = some ((Nat.gcd a b : Nat) : Int) := by
  have hg : Nat.gcd b a ≤ a := Nat.gcd_le_right _ ha
  have hl : loop (m_ref01_Gcd_L1 std) ((a : Int), (b : Int)) = some (.inr ((Nat.gcd b a : Nat) : Int)) := p_ref01_Gcd_L1 _ a b (by omega)
  rw [m_ref01_Gcd_eq, hl, Option.bind_some, Nat.gcd_comm a b]
  have h1 : (((Nat.gcd b a : Nat) : Int) == -9223372036854775808) = false := eF (by omega)
  have h2 : decide (((Nat.gcd b a : Nat) : Int) < 0) = false := dF (by omega)
  simp only [h1, h2, cond_false, Option.bind_some]
end Go.Proofs.Ytoklfjkanipjkaa
