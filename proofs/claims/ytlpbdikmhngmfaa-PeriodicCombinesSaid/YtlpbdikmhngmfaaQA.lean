/-
  Periodic sets: integers, spans, canonical lists, equality of lists: what the models come to.
  Periodic sets: equal lists; lists that are sorted and joined; spans taken modulo a period: what the models come to.
  Periodic sets: the program's combination of two canonical lists.
  Periodic sets: the reference's combination of two canonical lists.
  Periodic sets: sets moved, the changes of a set, whether a set repeats: what the models come to.
  Periodic sets: the least period, the form of a set, valid sets: what the models come to.
  Periodic sets: valid sets; the form of spans anywhere, by the program and by the reference.
  Periodic sets: combinations of two sets, by the program and by the reference.
  Periodic sets: membership, equality, complements, movement: what the models come to.
-/
import Derived.Test.YtlpbdikmhngmfaaQQ
import Derived.Test.YtlpbdikmhngmfaaPure
import Derived.Test.YtlpbdikmhngmfaaHP
namespace Go.Proofs.Ytlpbdikmhngmfaa
open Go.RowKit
section
theorem quo_cases (a b : Int) (ha1 : -9223372036854775808 ≤ a) (ha2 : a ≤ 9223372036854775807) (hb : 1 ≤ b) (hb2 : b ≤ 9223372036854775807) :
    (a.tmod b = 0 ∧ a.tdiv b = a / b ∧ a % b = 0 ∨ a.tmod b < 0 ∧ a.tdiv b - 1 = a / b ∧ a.tmod b + b = a % b ∨ 0 < a.tmod b ∧ a.tdiv b = a / b ∧ a.tmod b = a % b) ∧
    (-9223372036854775807 ≤ a.tdiv b ∨ a.tmod b = 0 ∧ -9223372036854775808 ≤ a.tdiv b) ∧ a.tdiv b ≤ 9223372036854775807 ∧ -9223372036854775807 ≤ a.tmod b ∧ a.tmod b ≤ 9223372036854775807 := by
  have hm := Int.tmod_add_mul_tdiv a b
  rcases Int.lt_or_le a 0 with hn | hn
  · have hb1 := tmod_bd a b hn hb
    have hb2 := tdiv_bd a b hn hb
    by_cases hr : a.tmod b = 0
    · have e2 := tdiv_zero' a b hb hr
      have e3 := tmod_zero' a b hr
      exact ⟨.inl ⟨hr, e2, e3.symm⟩, .inr ⟨hr, by omega⟩, by omega, by omega, by omega⟩
    · have e2 := tdiv_neg' a b hn hb hr
      have e3 := tmod_neg' a b hn hb hr
      refine ⟨.inr (.inl ⟨by omega, e2, e3⟩), .inl ?_, by omega, by omega, by omega⟩
      rcases Int.lt_or_le (a.tdiv b) (-9223372036854775807) with h | h
      · exfalso
        have h5 : a.tdiv b = -9223372036854775808 := by omega
        have h6 : b = 1 := by
          rcases Int.lt_or_le 1 b with h7 | h7
          · rw [h5] at hm; omega
          · omega
        subst h6
        simp at hr
      · exact h
  · have e1 : a.tdiv b = a / b := Int.tdiv_eq_ediv_of_nonneg hn
    have e2 : a.tmod b = a % b := Int.tmod_eq_emod_of_nonneg hn
    have hq : 0 ≤ a / b := Int.ediv_nonneg hn (by omega)
    have hq2 : a / b ≤ a := Int.ediv_le_self _ hn
    have hd := div_bd (a := a) hb
    rw [e1, e2]
    refine ⟨?_, .inl (by omega), by omega, by omega, by omega⟩
    rcases Int.lt_or_le 0 (a % b) with h | h
    · exact .inr (.inr ⟨h, rfl, rfl⟩)
    · exact .inl ⟨by omega, rfl, by omega⟩
theorem p_integer_Div (a b : Int) (ha1 : -9223372036854775808 ≤ a) (ha2 : a ≤ 9223372036854775807) (hb : 1 ≤ b) (hb2 : b ≤ 9223372036854775807) : m_integer_Div std a b = some (a / b, a % b, 0) := by
  rw [m_integer_Div_eq]
  obtain ⟨hc, hq1, hq2, hr1, hr2⟩ := quo_cases a b ha1 ha2 hb hb2
  have h0 : (b == 0) = false := eF (by omega)
  have h1 : (b == -1) = false := eF (by omega)
  have hz : okNz b = true := dT (by omega)
  have hb3 : decide (b < 0) = false := dF (by omega)
  generalize a.tdiv b = q at *
  generalize a.tmod b = r at *
  have e1 : okI .i64 q = true := by rw [okI64]; exact dT (by omega)
  rcases hc with ⟨rfl, rfl, hd⟩ | ⟨h2, h3, h4⟩ | ⟨h2, rfl, rfl⟩
  · simp [h0, h1, hz, grd, e1, hd]
  · have h5 : (r == 0) = false := eF (by omega)
    have hl : decide (r < 0) = true := dT h2
    have e4 : okI .i64 (q - 1) = true := by rw [okI64]; exact dT (by omega)
    have e5 : okI .i64 (r + b) = true := by rw [okI64]; exact dT (by omega)
    simp [h0, h1, hz, grd, e1, h5, hl, hb3, e4, e5]
    rw [← h3, ← h4]
    simp [e4, e5]
  · have h5 : (a % b == 0) = false := eF (by omega)
    have hl : decide (a % b < 0) = false := dF (by omega)
    simp [h0, h1, hz, grd, e1, h5, hl, hb3]
theorem p_ref01_Div (a b : Int) (ha1 : -9223372036854775808 ≤ a) (ha2 : a ≤ 9223372036854775807) (hb : 1 ≤ b) (hb2 : b ≤ 9223372036854775807) : m_ref01_Div std a b = some (a / b, a % b, 0) := by
  rw [m_ref01_Div_eq]
  obtain ⟨hc, hq1, hq2, hr1, hr2⟩ := quo_cases a b ha1 ha2 hb hb2
  have h0 : (b == 0) = false := eF (by omega)
  have h1 : (b == -1) = false := eF (by omega)
  have hz : okNz b = true := dT (by omega)
  have hb3 : decide (b < 0) = false := dF (by omega)
  generalize a.tdiv b = q at *
  generalize a.tmod b = r at *
  have e1 : okI .i64 q = true := by rw [okI64]; exact dT (by omega)
  rcases hc with ⟨rfl, rfl, hd⟩ | ⟨h2, h3, h4⟩ | ⟨h2, rfl, rfl⟩
  · simp [h0, h1, hz, grd, e1, hd]
  · have h5 : (r == 0) = false := eF (by omega)
    have hl : decide (r < 0) = true := dT h2
    have e4 : okI .i64 (q - 1) = true := by rw [okI64]; exact dT (by omega)
    have e5 : okI .i64 (r + b) = true := by rw [okI64]; exact dT (by omega)
    simp [h0, h1, hz, grd, e1, h5, hl, hb3, e4, e5]
    rw [← h3, ← h4]
    simp [e4, e5]
  · have h5 : (a % b == 0) = false := eF (by omega)
    have hl : decide (a % b < 0) = false := dF (by omega)
    simp [h0, h1, hz, grd, e1, h5, hl, hb3]
theorem p_integer_Mod (a b : Int) (ha1 : -9223372036854775808 ≤ a) (ha2 : a ≤ 9223372036854775807) (hb : 1 ≤ b) (hb2 : b ≤ 9223372036854775807) : m_integer_Mod std a b = some (a % b) := by
  rw [m_integer_Mod_eq, p_integer_Div a b ha1 ha2 hb hb2]; rfl
theorem p_ref01_Mod (a b : Int) (ha1 : -9223372036854775808 ≤ a) (ha2 : a ≤ 9223372036854775807) (hb : 1 ≤ b) (hb2 : b ≤ 9223372036854775807) : m_ref01_Mod std a b = some (a % b) := by
  rw [m_ref01_Mod_eq, p_ref01_Div a b ha1 ha2 hb hb2]; rfl
theorem nat_tdiv (a b : Nat) : ((a : Int)).tdiv (b : Int) = ((a / b : Nat) : Int) := by rw [Int.tdiv_eq_ediv_of_nonneg (by omega)]; exact (Int.natCast_ediv a b).symm
theorem nat_tmod (a b : Nat) : ((a : Int)).tmod (b : Int) = ((a % b : Nat) : Int) := by rw [Int.tmod_eq_emod_of_nonneg (by omega)]; exact (Int.natCast_emod a b).symm

/-! common divisors -/
theorem p_integer_Gcd_L1 : ∀ (n a b : Nat), b < n → iter (m_integer_Gcd_L1 std) n ((a : Int), (b : Int)) = some (id ((Nat.gcd b a : Nat) : Int)) := by
  intro n
  induction n with
  | zero => intro a b h; omega
  | succ n ih =>
    intro a b h
    unfold iter
    rw [m_integer_Gcd_L1_eq]
    rcases Nat.eq_zero_or_pos b with h0 | h0
    · subst h0
      simp
    · have h1 : (((b : Nat) : Int) == 0) = false := eF (by omega)
      have h2 : (((b : Nat) : Int) == -1) = false := eF (by omega)
      have hz : okNz ((b : Nat) : Int) = true := dT (by omega)
      rw [nat_tmod a b]
      simp only [h1, h2, hz, grd, Bool.not_false, cond_true, cond_false]
      rw [ih b (a % b) (by have := Nat.mod_lt a h0; omega), Nat.gcd_rec b a]
theorem p_ref01_Gcd_L1 : ∀ (n a b : Nat), b < n → iter (m_ref01_Gcd_L1 std) n ((a : Int), (b : Int)) = some (Sum.inr ((Nat.gcd b a : Nat) : Int)) := by
  intro n
  induction n with
  | zero => intro a b h; omega
  | succ n ih =>
    intro a b h
    unfold iter
    rw [m_ref01_Gcd_L1_eq]
    rcases Nat.eq_zero_or_pos b with h0 | h0
    · subst h0
      simp
    · have h1 : (((b : Nat) : Int) == 0) = false := eF (by omega)
      have h2 : (((b : Nat) : Int) == -1) = false := eF (by omega)
      have hz : okNz ((b : Nat) : Int) = true := dT (by omega)
      rw [nat_tmod a b]
      simp only [h1, h2, hz, grd, Bool.not_false, cond_true, cond_false]
      rw [ih b (a % b) (by have := Nat.mod_lt a h0; omega), Nat.gcd_rec b a]
theorem p_integer_Gcd (a b : Nat) (ha : 1 ≤ a) (ha2 : a ≤ 9223372036854775807) (hb2 : b ≤ 9223372036854775807) : m_integer_Gcd std (a : Int) (b : Int) = some ((Nat.gcd a b : Nat) : Int) := by
  have hg : Nat.gcd b a ≤ a := Nat.gcd_le_right _ ha
  have hs : ∀ c : Nat, c ≤ 9223372036854775807 → m_integer_size std (c : Int) = some (c : Int) := fun c hc => by
    rw [m_integer_size_eq]
    exact bF (dF (by omega)) (gU (by omega) rfl)
  have hl : loop (m_integer_Gcd_L1 std) ((a : Int), (b : Int)) = some ((Nat.gcd b a : Nat) : Int) := p_integer_Gcd_L1 _ a b (by omega)
  rw [m_integer_Gcd_eq, hs a ha2, Option.bind_some, hs b hb2, Option.bind_some, hl, Option.bind_some, m_integer_signed_eq, Nat.gcd_comm a b]
  have h1 : decide (((Nat.gcd b a : Nat) : Int) ≤ 9223372036854775807) = true := dT (by omega)
  have h2 : okI .i64 ((Nat.gcd b a : Nat) : Int) = true := by rw [okI64]; exact dT (by omega)
  simp [h1, h2, grd]
theorem p_ref01_Gcd (a b : Nat) (ha : 1 ≤ a) (ha2 : a ≤ 9223372036854775807) (hb2 : b ≤ 9223372036854775807) : m_ref01_Gcd std (a : Int) (b : Int) = some ((Nat.gcd a b : Nat) : Int) := by
  have hg : Nat.gcd b a ≤ a := Nat.gcd_le_right _ ha
  have hl : loop (m_ref01_Gcd_L1 std) ((a : Int), (b : Int)) = some (.inr ((Nat.gcd b a : Nat) : Int)) := p_ref01_Gcd_L1 _ a b (by omega)
  rw [m_ref01_Gcd_eq, hl, Option.bind_some, Nat.gcd_comm a b]
  have h1 : (((Nat.gcd b a : Nat) : Int) == -9223372036854775808) = false := eF (by omega)
  have h2 : decide (((Nat.gcd b a : Nat) : Int) < 0) = false := dF (by omega)
  simp only [h1, h2, cond_false, Option.bind_some]
def comP (a b : Int) : Int := a * ((b.toNat / Nat.gcd a.toNat b.toNat : Nat) : Int)
theorem comP_parts {a b : Int} (ha : 1 ≤ a) (hb : 1 ≤ b) : ∃ g : Nat, 1 ≤ g ∧ Nat.gcd a.toNat b.toNat = g ∧ (g : Int) ≤ a ∧ (g : Int) ≤ b ∧ a = ((a.toNat / g : Nat) : Int) * g ∧ b = ((b.toNat / g : Nat) : Int) * g ∧ 1 ≤ a.toNat / g ∧ 1 ≤ b.toNat / g ∧
    comP a b = a * ((b.toNat / g : Nat) : Int) ∧ comP a b = ((a.toNat / g : Nat) : Int) * b := by
  have hg := Nat.gcd_pos_of_pos_left b.toNat (show 0 < a.toNat by omega)
  have h1 := Nat.gcd_dvd_left a.toNat b.toNat
  have h2 := Nat.gcd_dvd_right a.toNat b.toNat
  have l1 := Nat.gcd_le_left b.toNat (show 0 < a.toNat by omega)
  have l2 := Nat.gcd_le_right a.toNat (show 0 < b.toNat by omega)
  have e1 : a = ((a.toNat / Nat.gcd a.toNat b.toNat : Nat) : Int) * (Nat.gcd a.toNat b.toNat : Nat) := by
    rw [← Int.natCast_mul, Nat.div_mul_cancel h1]; omega
  have e2 : b = ((b.toNat / Nat.gcd a.toNat b.toNat : Nat) : Int) * (Nat.gcd a.toNat b.toNat : Nat) := by
    rw [← Int.natCast_mul, Nat.div_mul_cancel h2]; omega
  refine ⟨_, hg, rfl, by omega, by omega, e1, e2, Nat.div_pos l1 hg, Nat.div_pos l2 hg, rfl, ?_⟩
  unfold comP
  have e3 : ∀ x y g' : Int, a = x * g' → b = y * g' → a * y = x * b := fun x y g' u1 u2 => by
    rw [u1, u2, Int.mul_assoc, Int.mul_comm g' y]
  exact e3 _ _ _ e1 e2
theorem com_quo {a b : Int} (ha : 1 ≤ a) (hb : 1 ≤ b) : Int.tdiv (comP a b) b = ((a.toNat / Nat.gcd a.toNat b.toNat : Nat) : Int) ∧ Int.tdiv (comP a b) a = ((b.toNat / Nat.gcd a.toNat b.toNat : Nat) : Int) := by
  obtain ⟨g, g1, hg, g2, g3, e1, e2, q1, q2, c1, c2⟩ := comP_parts ha hb
  rw [hg]
  refine ⟨?_, ?_⟩
  · rw [c2]; exact Int.mul_tdiv_cancel _ (by omega)
  · rw [c1]; exact Int.mul_tdiv_cancel_left _ (by omega)
section
variable {a b : Int} (ha : 1 ≤ a) (ha2 : a ≤ 12622780800) (hb : 1 ≤ b) (hb2 : b ≤ 12622780800)
include ha ha2 hb hb2
theorem p_integer_Lcm : m_integer_Lcm std a b = some (bif fits (comP a b) then (comP a b, 0) else (0, 9)) := by
  obtain ⟨g, g1, hg, g2, g3, e1, e2, q1, q2, c1, c2⟩ := comP_parts ha hb
  have hd : Int.tdiv b (g : Int) = ((b.toNat / g : Nat) : Int) := by
    have : b = ((b.toNat : Nat) : Int) := by omega
    rw [this, nat_tdiv]; simp
  have hG : m_integer_Gcd std a b = some (g : Int) := by
    have := p_integer_Gcd a.toNat b.toNat (by omega) (by omega) (by omega)
    rw [show ((a.toNat : Nat) : Int) = a by omega, show ((b.toNat : Nat) : Int) = b by omega, hg] at this
    exact this
  have hq : ((b.toNat / g : Nat) : Int) ≤ b := by have := Nat.div_le_self b.toNat g; omega
  have hM : m_integer_Mul std a ((b.toNat / g : Nat) : Int) = some (bif fits (comP a b) then (comP a b, 0) else (0, 9)) := by
    unfold m_integer_Mul
    have f1 : fits a = true := by simp [fits]; omega
    have f2 : fits ((b.toNat / g : Nat) : Int) = true := by simp only [fits, Bool.and_eq_true, decide_eq_true_eq]; omega
    rw [f1, f2, c1]; rfl
  rw [m_integer_Lcm_eq]
  refine bB (v := false) (bF (dF (by omega)) (congrArg some (dF (by omega)))) (bF rfl (bB hG (gZ (by omega) ?_)))
  rw [hd]
  exact gI (by omega) (bB hM rfl)
theorem p_ref01_Lcm : m_ref01_Lcm std a b = some (bif fits (comP a b) then (comP a b, 0) else (0, 9)) := by
  obtain ⟨g, g1, hg, g2, g3, e1, e2, q1, q2, c1, c2⟩ := comP_parts ha hb
  have hd : Int.tdiv a (g : Int) = ((a.toNat / g : Nat) : Int) := by
    have : a = ((a.toNat : Nat) : Int) := by omega
    rw [this, nat_tdiv]; simp
  have hG : m_ref01_Gcd std a b = some (g : Int) := by
    have := p_ref01_Gcd a.toNat b.toNat (by omega) (by omega) (by omega)
    rw [show ((a.toNat : Nat) : Int) = a by omega, show ((b.toNat : Nat) : Int) = b by omega, hg] at this
    exact this
  have hq : ((a.toNat / g : Nat) : Int) ≤ a := by have := Nat.div_le_self a.toNat g; omega
  have hM : m_ref01_Mul std ((a.toNat / g : Nat) : Int) b = some (bif fits (comP a b) then (comP a b, 0) else (0, 9)) := by
    unfold m_ref01_Mul
    rw [show decide (1 ≤ ((a.toNat / g : Nat) : Int) ∧ ((a.toNat / g : Nat) : Int) ≤ 1099511627776) = true from dT (by omega), show decide (1 ≤ b ∧ b ≤ 1099511627776) = true from dT (by omega), c2]; rfl
  rw [m_ref01_Lcm_eq]
  refine bB (v := false) (bF (dF (by omega)) (congrArg some (dF (by omega)))) (bF rfl (bB hG (gZ (by omega) ?_)))
  rw [hd]
  exact gI (by omega) (bB hM rfl)
end

/-! spans -/
def svB (a b : Int) : Bool := decide (-4398046511104 ≤ a ∧ b ≤ 4398046511104 ∧ a < b)
theorem svB_iff {a b : Int} : svB a b = true ↔ -4398046511104 ≤ a ∧ b ≤ 4398046511104 ∧ a < b := by simp [svB]
theorem svB_false {a b : Int} : svB a b = false ↔ ¬ (-4398046511104 ≤ a ∧ b ≤ 4398046511104 ∧ a < b) := by simp only [svB, decide_eq_false_iff_not]
theorem ands {p q : Prop} [Decidable p] [Decidable q] : (bif decide p then (some (decide q) : Option Bool) else some false) = some (decide (p ∧ q)) := by
  by_cases h : p
  · simp [h]
  · simp [h]
theorem p_interval_line (x : Int) : m_interval_line std x = some (decide (-4398046511104 ≤ x ∧ x ≤ 4398046511104)) := by
  rw [m_interval_line_eq, ands]; rfl
theorem p_law13_line (x : Int) : m_law13_line std x = some (decide (-4398046511104 ≤ x ∧ x ≤ 4398046511104)) := by
  rw [m_law13_line_eq, ands]; rfl
theorem p_interval_Valid (a b : Int) : m_interval_Valid std a b = some (svB a b) := by
  rw [m_interval_Valid_eq, p_interval_line, Option.bind_some, p_interval_line, Option.bind_some, ands]
  by_cases h : -4398046511104 ≤ a ∧ a ≤ 4398046511104
  · rw [dT h]
    simp only [cond_true, Option.bind_some]
    congr 1
    unfold svB
    rw [decide_eq_decide]; omega
  · rw [dF h]
    simp only [cond_false, Option.bind_some]
    congr 1
    unfold svB
    exact (dF (by omega)).symm
theorem p_ref13_Span (a b : Int) : m_ref13_Span std a b = some (svB a b) := by
  rw [m_ref13_Span_eq, ands]
  by_cases h : -4398046511104 ≤ a
  · rw [dT h]
    simp only [cond_true, Option.bind_some]
    congr 1
    unfold svB
    rw [decide_eq_decide]; omega
  · rw [dF h]
    simp only [cond_false, Option.bind_some]
    congr 1
    unfold svB
    exact (dF (by omega)).symm

/-! a loop over places that may stop -/
theorem loop_first {ε : Type} {B : Int → Option (Int ⊕ ε)} {n : Nat} {p : Nat → Bool} {e1 : Nat → ε} {e0 : ε} (hn : n < 1180591620717411303423) (hs : ∀ i, i < n → p i = true → B (i : Int) = some (.inl ((i + 1 : Nat) : Int))) (hx : ∀ i, i < n → p i = false → B (i : Int) = some (.inr (e1 i))) (he : B (n : Int) = some (.inr e0)) :
    (∀ i, i < n → p i = true) ∧ loop B 0 = some e0 ∨ ∃ k, k < n ∧ p k = false ∧ (∀ i, i < k → p i = true) ∧ loop B 0 = some (e1 k) := by
  rcases first_or p n with h | ⟨k, h1, h2, h3⟩
  · exact .inl ⟨h, loop_to' (fun i => (i : Int)) (by omega) (fun i hi => hs i hi (h i hi)) he⟩
  · exact .inr ⟨k, h1, h2, h3, loop_to' (n := k) (fun i => (i : Int)) (by omega) (fun i hi => hs i (by omega) (h3 i hi)) (hx k h1 h2)⟩
theorem fr_def (l : List Sp) (k : Nat) : (List.getD l k (0, 0)).1 = fr l k := rfl
theorem tt_def (l : List Sp) (k : Nat) : (List.getD l k (0, 0)).2 = tt l k := rfl

/-- all spans are on the line -/
def spsB (l : List Sp) : Bool := l.all fun s => svB s.1 s.2
theorem spsB_iff {l : List Sp} : spsB l = true ↔ ∀ k, k < l.length → svB (fr l k) (tt l k) = true := by
  unfold spsB
  rw [List.all_eq_true]
  constructor
  · intro h k hk
    have := h l[k] (List.getElem_mem hk)
    rwa [list_fr l hk] at this
  · intro h s hs
    obtain ⟨k, hk, rfl⟩ := List.getElem_of_mem hs
    have := h k hk
    rw [list_fr l hk]
    exact this
theorem p_slices_ContainsFunc (l : List Sp) (hl : l.length ≤ 1099511627776) : m_slices_ContainsFunc std l = some (!spsB l) := by
  rw [m_slices_ContainsFunc_eq, m_slices_IndexFunc_eq]
  have h1 : ∀ i, i < l.length → m_slices_IndexFunc_L1 std l (i : Int) = if svB (fr l i) (tt l i) = true then some (.inl ((i + 1 : Nat) : Int)) else some (.inr (.inl (i : Int))) := fun i hi => by
    rw [m_slices_IndexFunc_L1_eq, m_periodic_Of_1_eq]
    simp only [Int.toNat_natCast, fr_def, tt_def]
    rw [p_interval_Valid]
    refine bT (dT (by omega)) (gX (by omega) (gK hi (bB rfl ?_)))
    cases svB (fr l i) (tt l i) with
    | true => exact gI (by omega) rfl
    | false => rfl
  have h2 := loop_first (B := m_slices_IndexFunc_L1 std l) (n := l.length) (p := fun i => svB (fr l i) (tt l i)) (e1 := fun i => .inl (i : Int)) (e0 := .inr ()) (by omega)
    (fun i hi hp => by rw [h1 i hi, if_pos hp]) (fun i hi hp => by rw [h1 i hi, if_neg (by rw [hp]; decide)]) (by rw [m_slices_IndexFunc_L1_eq]; exact bF (dF (by omega)) rfl)
  rcases h2 with ⟨h3, h4⟩ | ⟨k, h3, h4, _, h5⟩
  · rw [h4, spsB_iff.2 h3]; rfl
  · have : spsB l = false := by
      rw [Bool.eq_false_iff]
      intro h
      rw [spsB_iff.1 h k h3] at h4; cases h4
    rw [h5, this]
    simp only [Option.bind_some]
    rw [dT (show (0 : Int) ≤ (k : Int) by omega)]; rfl

/-! canonical lists -/
def canAt (l : List Sp) (i : Nat) : Bool := svB (fr l i) (tt l i) && (i == 0 || decide (tt l (i - 1) < fr l i))
theorem canAt_iff {l : List Sp} {i : Nat} : canAt l i = true ↔ (-4398046511104 ≤ fr l i ∧ tt l i ≤ 4398046511104 ∧ fr l i < tt l i) ∧ (i = 0 ∨ tt l (i - 1) < fr l i) := by
  unfold canAt
  rw [Bool.and_eq_true, svB_iff]; simp
def Line (l : List Sp) : Prop := ∀ s ∈ l, -4398046511104 ≤ s.1 ∧ s.2 ≤ 4398046511104
def canB (l : List Sp) : Bool := (List.range l.length).all (canAt l)
theorem canB_at {l : List Sp} : canB l = true ↔ ∀ k, k < l.length → canAt l k = true := by unfold canB; rw [List.all_eq_true]; simp
theorem canB_iff {l : List Sp} : canB l = true ↔ Can l ∧ Line l := by
  rw [canB_at]
  constructor
  · intro h
    refine ⟨Can.mk' (fun j hj => (canAt_iff.1 (h j hj)).1.2.2) (fun j hj => by rcases (canAt_iff.1 (h (j + 1) hj)).2 with h | h; omega; exact h), fun s hs => ?_⟩
    obtain ⟨k, hk, rfl⟩ := List.getElem_of_mem hs
    have := (canAt_iff.1 (h k hk)).1
    rw [list_fr l hk]
    exact ⟨this.1, this.2.1⟩
  · rintro ⟨h1, h2⟩ k hk
    have h3 := h2 l[k] (List.getElem_mem hk)
    rw [list_fr l hk] at h3
    refine canAt_iff.2 ⟨⟨h3.1, h3.2, h1.ne' hk⟩, ?_⟩
    rcases Nat.eq_zero_or_pos k with h | h
    · exact .inl h
    · exact .inr (h1.lt (show k - 1 < k by omega) hk)
theorem p_runs_Valid (l : List Sp) (hl : l.length ≤ 1099511627776) : Option.bind (loop (m_runs_Valid_L1 std l) 0) (fun e => match e with | .inl _ => some false | .inr _ => some true) = some (canB l) := by
  have h1 : ∀ i, i < l.length → m_runs_Valid_L1 std l (i : Int) = if canAt l i = true then some (.inl ((i + 1 : Nat) : Int)) else some (.inr (.inl ())) := fun i hi => by
    have hX : Option.bind (m_interval_Valid std (fr l i) (tt l i)) (fun b8 => bif (!b8) then some true else bif decide (0 < (i : Int)) then grd (okI .i64 ((i : Int) - 1)) <| grd (okIdx ((i : Int) - 1) l.length) <| grd (okKin (Int.toNat ((i : Int) - 1)) l.length) <| some (decide (fr l i ≤ tt l (Int.toNat ((i : Int) - 1)))) else some false) = some (!canAt l i) := by
      rw [p_interval_Valid]
      refine bB rfl ?_
      unfold canAt
      cases hv : svB (fr l i) (tt l i) with
      | false => rfl
      | true =>
        rcases Nat.eq_zero_or_pos i with h0 | h0
        · subst h0; rfl
        · refine bF rfl (bT (dT (by omega)) (gI (by omega) (gX (by omega) (gK (by omega) (congrArg some ?_)))))
          rw [show Int.toNat ((i : Int) - 1) = i - 1 by omega]
          have : (i == 0) = false := by simp; omega
          rw [this]
          simp only [Bool.true_and, Bool.false_or]
          by_cases h : tt l (i - 1) < fr l i
          · rw [dT h, dF (by omega)]; rfl
          · rw [dF h, dT (by omega)]; rfl
    rw [m_runs_Valid_L1_eq]
    simp only [Int.toNat_natCast, fr_def, tt_def]
    refine bT (dT (by omega)) ?_
    first
      | refine gX (by omega) (gK hi (bB hX ?_))
      | refine bB (gX (by omega) (gK hi hX)) ?_
    cases canAt l i with
    | true => exact gI (by omega) rfl
    | false => rfl
  have h2 := loop_first (B := m_runs_Valid_L1 std l) (n := l.length) (p := canAt l) (e1 := fun _ => .inl ()) (e0 := .inr ()) (by omega)
    (fun i hi hp => by rw [h1 i hi, if_pos hp]) (fun i hi hp => by rw [h1 i hi, if_neg (by rw [hp]; decide)]) (by rw [m_runs_Valid_L1_eq]; exact bF (dF (by omega)) rfl)
  rcases h2 with ⟨h3, h4⟩ | ⟨k, h3, h4, _, h5⟩
  · rw [h4, canB_at.2 h3]; rfl
  · have : canB l = false := by
      rw [Bool.eq_false_iff]
      intro h
      rw [canB_at.1 h k h3] at h4; cases h4
    rw [h5, this]; rfl
theorem p_ref13_Runs (l : List Sp) (hl : l.length ≤ 1099511627776) : Option.bind (loop (m_ref13_Runs_L1 std l) 0) (fun e => match e with | .inl _ => some false | .inr _ => some true) = some (canB l) := by
  have h1 : ∀ i, i < l.length → m_ref13_Runs_L1 std l (i : Int) = if canAt l i = true then some (.inl ((i + 1 : Nat) : Int)) else some (.inr (.inl ())) := fun i hi => by
    have hX : Option.bind (m_ref13_Span std (fr l i) (tt l i)) (fun b8 => bif (!b8) then some true else bif decide (0 < (i : Int)) then grd (okI .i64 ((i : Int) - 1)) <| grd (okIdx ((i : Int) - 1) l.length) <| grd (okKin (Int.toNat ((i : Int) - 1)) l.length) <| some (decide (fr l i ≤ tt l (Int.toNat ((i : Int) - 1)))) else some false) = some (!canAt l i) := by
      rw [p_ref13_Span]
      refine bB rfl ?_
      unfold canAt
      cases hv : svB (fr l i) (tt l i) with
      | false => rfl
      | true =>
        rcases Nat.eq_zero_or_pos i with h0 | h0
        · subst h0; rfl
        · refine bF rfl (bT (dT (by omega)) (gI (by omega) (gX (by omega) (gK (by omega) (congrArg some ?_)))))
          rw [show Int.toNat ((i : Int) - 1) = i - 1 by omega]
          have : (i == 0) = false := by simp; omega
          rw [this]
          simp only [Bool.true_and, Bool.false_or]
          by_cases h : tt l (i - 1) < fr l i
          · rw [dT h, dF (by omega)]; rfl
          · rw [dF h, dT (by omega)]; rfl
    rw [m_ref13_Runs_L1_eq]
    simp only [Int.toNat_natCast, fr_def, tt_def]
    refine bT (dT (by omega)) ?_
    first
      | refine gX (by omega) (gK hi (bB hX ?_))
      | refine bB (gX (by omega) (gK hi hX)) ?_
    cases canAt l i with
    | true => exact gI (by omega) rfl
    | false => rfl
  have h2 := loop_first (B := m_ref13_Runs_L1 std l) (n := l.length) (p := canAt l) (e1 := fun _ => .inl ()) (e0 := .inr ()) (by omega)
    (fun i hi hp => by rw [h1 i hi, if_pos hp]) (fun i hi hp => by rw [h1 i hi, if_neg (by rw [hp]; decide)]) (by rw [m_ref13_Runs_L1_eq]; exact bF (dF (by omega)) rfl)
  rcases h2 with ⟨h3, h4⟩ | ⟨k, h3, h4, _, h5⟩
  · rw [h4, canB_at.2 h3]; rfl
  · have : canB l = false := by
      rw [Bool.eq_false_iff]
      intro h
      rw [canB_at.1 h k h3] at h4; cases h4
    rw [h5, this]; rfl
end
section
theorem sp_ext {a b : List Sp} (hl : a.length = b.length) (h : ∀ i, i < a.length → fr a i = fr b i ∧ tt a i = tt b i) : a = b := by
  refine List.ext_getElem hl fun i h1 h2 => ?_
  have := h i h1
  have e1 := list_fr a h1
  have e2 := list_fr b h2
  rw [e1, e2, this.1, this.2]
def eqSp (a b : List Sp) (i : Nat) : Bool := (fr a i == fr b i) && (tt a i == tt b i)
theorem p_slices_Equal (a b : List Sp) (ha : a.length ≤ 1099511627776) : m_slices_Equal std a b = some (decide (a = b)) := by
  rw [m_slices_Equal_eq]
  by_cases hl : a.length = b.length
  · refine bF (by rw [hl]; simp) ?_
    have h2 := loop_first (B := m_slices_Equal_L1 std a b) (n := a.length) (p := eqSp a b) (e1 := fun _ => .inl ()) (e0 := .inr ()) (by omega)
      (fun i hi hp => by
        rw [m_slices_Equal_L1_eq]
        simp only [Int.toNat_natCast, fr_def, tt_def]
        refine bT (dT (by omega)) (gX (by omega) (gK hi (gX (by omega) (gK (by omega) (bF (nF hp) (gI (by omega) rfl))))))) (fun i hi hp => by
        rw [m_slices_Equal_L1_eq]
        simp only [Int.toNat_natCast, fr_def, tt_def]
        refine bT (dT (by omega)) (gX (by omega) (gK hi (gX (by omega) (gK (by omega) (bT (nT hp) rfl)))))) (by rw [m_slices_Equal_L1_eq]; exact bF (dF (by omega)) rfl)
    rcases h2 with ⟨h3, h4⟩ | ⟨k, h3, h4, _, h5⟩
    · have : a = b := sp_ext hl fun i hi => by have := h3 i hi; simpa [eqSp] using this
      rw [h4, dT this]; rfl
    · have : a ≠ b := fun e => by subst e; simp [eqSp] at h4
      rw [h5, dF this]; rfl
  · have : a ≠ b := fun e => hl (by rw [e])
    rw [dF this]
    exact bT (nT (eF (by omega))) rfl
theorem p_ref13_Same (a b : List Sp) (ha : a.length ≤ 1099511627776) : m_ref13_Same std a b = some (decide (a = b)) := by
  rw [m_ref13_Same_eq]
  by_cases hl : a.length = b.length
  · refine bF (by rw [hl]; simp) ?_
    have h2 := loop_first (B := m_ref13_Same_L1 std a b) (n := a.length) (p := eqSp a b) (e1 := fun _ => .inl ()) (e0 := .inr ()) (by omega)
      (fun i hi hp => by
        rw [m_ref13_Same_L1_eq]
        simp only [Int.toNat_natCast, fr_def, tt_def]
        refine bT (dT (by omega)) (gX (by omega) (gK hi (gX (by omega) (gK (by omega) (bF (nF hp) (gI (by omega) rfl))))))) (fun i hi hp => by
        rw [m_ref13_Same_L1_eq]
        simp only [Int.toNat_natCast, fr_def, tt_def]
        refine bT (dT (by omega)) (gX (by omega) (gK hi (gX (by omega) (gK (by omega) (bT (nT hp) rfl)))))) (by rw [m_ref13_Same_L1_eq]; exact bF (dF (by omega)) rfl)
    rcases h2 with ⟨h3, h4⟩ | ⟨k, h3, h4, _, h5⟩
    · have : a = b := sp_ext hl fun i hi => by have := h3 i hi; simpa [eqSp] using this
      rw [h4, dT this]; rfl
    · have : a ≠ b := fun e => by subst e; simp [eqSp] at h4
      rw [h5, dF this]; rfl
  · have : a ≠ b := fun e => hl (by rw [e])
    rw [dF this]
    exact bT (nT (eF (by omega))) rfl
theorem p_ref13_Same_2 (a : List Sp) (ha : a.length ≤ 1099511627776) : m_ref13_Same_2 std a = some true := by
  rw [m_ref13_Same_2_eq]
  refine bF (by simp) ?_
  have h := loop_to' (B := m_ref13_Same_2_L1 std a) (n := a.length) (fun i => (i : Int)) (e := .inr ()) (by omega) (fun i hi => by
    rw [m_ref13_Same_2_L1_eq]
    simp only [Int.toNat_natCast]
    exact bT (dT (by omega)) (gX (by omega) (gK hi (bF (by simp) (gI (by omega) rfl))))) (by rw [m_ref13_Same_2_L1_eq]; exact bF (dF (by omega)) rfl)
  have h' : loop (m_ref13_Same_2_L1 std a) 0 = some (.inr ()) := h
  rw [h']; rfl

/-! joined -/
theorem joinS_len (l : List Sp) (s : Sp) : (joinS l s).length ≤ l.length + 1 := by
  rcases List.eq_nil_or_concat l with rfl | ⟨l', t, rfl⟩
  · rw [joinS_nil]; simp
  · simp only [List.concat_eq_append]
    rw [joinS_snoc]
    split <;> simp
theorem joinL_snoc (l : List Sp) (s : Sp) : joinL (l ++ [s]) = joinS (joinL l) s := by unfold joinL; rw [List.foldl_append]; rfl
theorem take_succ' (l : List Sp) {i : Nat} (hi : i < l.length) : l.take (i + 1) = l.take i ++ [(fr l i, tt l i)] := by
  rw [List.take_succ_eq_append_getElem hi, list_fr l hi]
theorem joinL_len (l : List Sp) : (joinL l).length ≤ l.length := by
  have key : ∀ n, n ≤ l.length → (joinL (l.take n)).length ≤ n := by
    intro n
    induction n with
    | zero => intro _; simp [joinL]
    | succ n ih =>
      intro h
      rw [take_succ' l (by omega), joinL_snoc]
      have := joinS_len (joinL (l.take n)) (fr l n, tt l n)
      have := ih (by omega)
      omega
  have := key l.length (Nat.le_refl _)
  rwa [List.take_length] at this
theorem p_periodic_fold_L2 (l : List Sp) (hl : l.length ≤ 1099511627775) : loop (m_periodic_fold_L2 std l) (0, ([] : List Sp)) = some (joinL l) := by
  have h := loop_up (B := m_periodic_fold_L2 std l) (n := l.length) (fun i => joinL (l.take i)) (e := joinL l) (by omega) (fun i hi => by
    have hlen := joinL_len (l.take i)
    rw [List.length_take] at hlen
    rw [take_succ' l hi, joinL_snoc, m_periodic_fold_L2_eq]
    generalize joinL (l.take i) = acc at *
    simp only [Int.toNat_natCast, fr_def, tt_def]
    refine bT (dT (by omega)) (gX (by omega) (gK hi ?_))
    rcases List.eq_nil_or_concat acc with rfl | ⟨l', t, rfl⟩
    · refine bB (v := false) (bF (dF (by simp)) rfl) (bB (v := [(fr l i, tt l i)]) (bF rfl (gR (by simp) (gR (by simp) rfl))) (gI (by omega) ?_))
      rw [joinS_nil]; rfl
    · simp only [List.concat_eq_append] at *
      have hn : (l' ++ [t]).length = l'.length + 1 := by simp
      have e1 : Int.toNat ((((l' ++ [t]).length : Nat) : Int) - 1) = l'.length := by rw [hn]; omega
      have e2 : tt (l' ++ [t]) l'.length = t.2 := by simp [tt]
      have e3 : fr (l' ++ [t]) l'.length = t.1 := by simp [fr]
      simp only [e1, e2, e3]
      rw [joinS_snoc]
      refine bB (v := decide (fr l i ≤ t.2)) (bT (dT (by omega)) (gI (by omega) (gX (by omega) (gK (by omega) rfl)))) ?_
      by_cases h : fr l i ≤ t.2
      · rw [if_pos h, dT h]
        refine bB (v := l' ++ [(t.1, max t.2 (tt l i))]) (bT rfl (gI (by omega) (gX (by omega) (gK (by omega) (congrArg some ?_))))) (gI (by omega) rfl)
        rw [List.set_append_right _ _ (Nat.le_refl _)]
        have : ma t.2 (tt l i) = max t.2 (tt l i) := by unfold ma; rw [Int.max_def]; split <;> split <;> omega
        rw [this]; simp
      · rw [if_neg h, dF h]
        exact bB (v := l' ++ [t] ++ [(fr l i, tt l i)]) (bF rfl (gR (by omega) (gR (by simp) rfl))) (gI (by omega) rfl)) (by
    rw [m_periodic_fold_L2_eq]
    refine bF (dF (by omega)) ?_
    show some (Sum.inr (joinL (l.take l.length))) = _
    rw [List.take_length])
  exact h
theorem p_periodic_spread_L3 (l : List Sp) (hl : l.length ≤ 1099511627775) : loop (m_periodic_spread_L3 std l) (0, ([] : List Sp)) = some (joinL l) := by
  have h := loop_up (B := m_periodic_spread_L3 std l) (n := l.length) (fun i => joinL (l.take i)) (e := joinL l) (by omega) (fun i hi => by
    have hlen := joinL_len (l.take i)
    rw [List.length_take] at hlen
    rw [take_succ' l hi, joinL_snoc, m_periodic_spread_L3_eq]
    generalize joinL (l.take i) = acc at *
    simp only [Int.toNat_natCast, fr_def, tt_def]
    refine bT (dT (by omega)) (gX (by omega) (gK hi ?_))
    rcases List.eq_nil_or_concat acc with rfl | ⟨l', t, rfl⟩
    · refine bB (v := false) (bF (dF (by simp)) rfl) (bB (v := [(fr l i, tt l i)]) (bF rfl (gR (by simp) (gR (by simp) rfl))) (gI (by omega) ?_))
      rw [joinS_nil]; rfl
    · simp only [List.concat_eq_append] at *
      have hn : (l' ++ [t]).length = l'.length + 1 := by simp
      have e1 : Int.toNat ((((l' ++ [t]).length : Nat) : Int) - 1) = l'.length := by rw [hn]; omega
      have e2 : tt (l' ++ [t]) l'.length = t.2 := by simp [tt]
      have e3 : fr (l' ++ [t]) l'.length = t.1 := by simp [fr]
      simp only [e1, e2, e3]
      rw [joinS_snoc]
      refine bB (v := decide (fr l i ≤ t.2)) (bT (dT (by omega)) (gI (by omega) (gX (by omega) (gK (by omega) rfl)))) ?_
      by_cases h : fr l i ≤ t.2
      · rw [if_pos h, dT h]
        refine bB (v := l' ++ [(t.1, max t.2 (tt l i))]) (bT rfl (gI (by omega) (gX (by omega) (gK (by omega) (congrArg some ?_))))) (gI (by omega) rfl)
        rw [List.set_append_right _ _ (Nat.le_refl _)]
        have : ma t.2 (tt l i) = max t.2 (tt l i) := by unfold ma; rw [Int.max_def]; split <;> split <;> omega
        rw [this]; simp
      · rw [if_neg h, dF h]
        exact bB (v := l' ++ [t] ++ [(fr l i, tt l i)]) (bF rfl (gR (by omega) (gR (by simp) rfl))) (gI (by omega) rfl)) (by
    rw [m_periodic_spread_L3_eq]
    refine bF (dF (by omega)) ?_
    show some (Sum.inr (joinL (l.take l.length))) = _
    rw [List.take_length])
  exact h
theorem p_sortSp {l : List Sp} (hb : BndL l) (hl : l.length ≤ 1099511627776) : m_sortSp std l = some (sortSp l) := by
  rw [m_sortSp_eq, dT hb]
  exact gR hl rfl
/-- sorted and joined -/
theorem joined_ok {l : List Sp} (hb : BndL l) (hn : ∀ s ∈ l, s.1 < s.2) : Can (joinL (sortSp l)) ∧ (∀ x, Mem (joinL (sortSp l)) x ↔ Mem l x) ∧ (joinL (sortSp l)).length ≤ l.length := by
  have hp := sortSp_perm l
  obtain ⟨h1, h2⟩ := joinL_mem (l := sortSp l) (fun s hs => hn s (hp.mem_iff.1 hs)) (sortSp_sorted hb)
  refine ⟨h1, fun x => (h2 x).trans (mem_perm hp), ?_⟩
  have := joinL_len (sortSp l)
  rw [sortSp_len] at this
  exact this
theorem std_of_mem {P : Int} {l : List Sp} (hP : 1 ≤ P) (h : Can l) (hm : ∀ x, Mem l x → 0 ≤ x ∧ x < P) : Std P l := by
  refine ⟨hP, h, fun s hs => ?_⟩
  have h1 := h.ne s hs
  have h2 := hm s.1 ⟨s, hs, Int.le_refl _, h1⟩
  have h3 := hm (s.2 - 1) ⟨s, hs, by omega, by omega⟩
  omega

/-! fold -/
section
variable {σ ε : Type}
theorem loop_firstS {B : Int × σ → Option ((Int × σ) ⊕ ε)} {n : Nat} {p : Nat → Bool} (f : Nat → σ) {e1 : Nat → ε} {e0 : ε} (hn : n < 1180591620717411303423) (hs : ∀ i, i < n → p i = true → B ((i : Int), f i) = some (.inl (((i + 1 : Nat) : Int), f (i + 1)))) (hx : ∀ i, i < n → p i = false → B ((i : Int), f i) = some (.inr (e1 i))) (he : B ((n : Int), f n) = some (.inr e0)) :
    (∀ i, i < n → p i = true) ∧ loop B (0, f 0) = some e0 ∨ ∃ k, k < n ∧ p k = false ∧ (∀ i, i < k → p i = true) ∧ loop B (0, f 0) = some (e1 k) := by
  rcases first_or p n with h | ⟨k, h1, h2, h3⟩
  · exact .inl ⟨h, loop_up f (by omega) (fun i hi => hs i hi (h i hi)) he⟩
  · exact .inr ⟨k, h1, h2, h3, loop_up (n := k) f (by omega) (fun i hi => hs i (by omega) (h3 i hi)) (hx k h1 h2)⟩
end
theorem foldP_len (P : Int) (s : Sp) : (foldP P s).length ≤ 2 := by unfold foldP; split <;> simp
theorem foldF_len (P : Int) (l : List Sp) : (l.flatMap (foldP P)).length ≤ 2 * l.length := by
  induction l with
  | nil => simp
  | cons s l ih =>
    rw [List.flatMap_cons, List.length_append, List.length_cons]
    have := foldP_len P s
    omega
theorem MemF_bd {P : Int} {l : List Sp} (hP : 1 ≤ P) {x : Int} (h : MemF P l x) : 0 ≤ x ∧ x < P := by
  obtain ⟨s, _, y, _, _, rfl⟩ := h
  exact ⟨Int.emod_nonneg y (by omega), Int.emod_lt_of_pos y (by omega)⟩
theorem p_periodic_fold {P : Int} {l : List Sp} (hP : 1 ≤ P) (hP2 : P ≤ 12622780800) (hl : l.length ≤ 1000000) (hs : ∀ s ∈ l, s.1 < s.2 ∧ -8796093022208 ≤ s.1 ∧ s.2 ≤ 8796093022208) :
    ∃ r, m_periodic_fold std P l = some r ∧ Std P r ∧ (∀ x, Mem r x ↔ MemF P l x) ∧ r.length ≤ 2 * l.length + 1 := by
  have hat : ∀ i, i < l.length → fr l i < tt l i ∧ -8796093022208 ≤ fr l i ∧ tt l i ≤ 8796093022208 := fun i hi => by
    have := hs l[i] (List.getElem_mem hi)
    rw [list_fr l hi] at this
    exact this
  have hloop := loop_firstS (B := m_periodic_fold_L1 std l P) (n := l.length) (p := fun i => decide (tt l i - fr l i < P)) (fun i => (l.take i).flatMap (foldP P)) (e1 := fun _ => .inl ()) (e0 := .inr (l.flatMap (foldP P))) (by omega)
    (fun i hi hp => by
      have hp := of_decide_eq_true hp
      have h1 := hat i hi
      have hlen := foldF_len P (l.take i)
      rw [List.length_take] at hlen
      rw [take_succ' l hi, List.flatMap_append, m_periodic_fold_L1_eq]
      generalize (l.take i).flatMap (foldP P) = acc at *
      simp only [Int.toNat_natCast, fr_def, tt_def]
      have m1 := Int.emod_nonneg (fr l i) (show P ≠ 0 by omega)
      have m2 := Int.emod_lt_of_pos (fr l i) (show 0 < P by omega)
      refine bT (dT (by omega)) (gX (by omega) (gK hi (gI (by omega) (bF (dF (by omega)) (bB (p_integer_Mod _ _ (by omega) (by omega) hP (by omega)) (gI (by omega) (gI (by omega) (gR (by omega) (gR (by simp) ?_)))))))))
      have e : [(fr l i, tt l i)].flatMap (foldP P) = foldP P (fr l i, tt l i) := by simp
      rw [e]
      unfold foldP
      simp only []
      by_cases h : P < fr l i % P + tt l i - fr l i
      · rw [if_pos h]
        refine bB (v := acc ++ [(fr l i % P, mi (fr l i % P + tt l i - fr l i) P)] ++ [(0, fr l i % P + tt l i - fr l i - P)]) (bT (dT h) (gI (by omega) (gR (by simp; omega) (gR (by simp) rfl)))) (gI (by omega) ?_)
        rw [List.append_assoc]; rfl
      · rw [if_neg h]
        exact bB (v := acc ++ [(fr l i % P, mi (fr l i % P + tt l i - fr l i) P)]) (bF (dF h) rfl) (gI (by omega) rfl))
    (fun i hi hp => by
      have hp := of_decide_eq_false hp
      have h1 := hat i hi
      rw [m_periodic_fold_L1_eq]
      simp only [Int.toNat_natCast, fr_def, tt_def]
      exact bT (dT (by omega)) (gX (by omega) (gK hi (gI (by omega) (bT (dT (by omega)) rfl)))))
    (by
      rw [m_periodic_fold_L1_eq, List.take_length]
      exact bF (dF (by omega)) rfl)
  rw [m_periodic_fold_eq]
  rcases hloop with ⟨h3, h4⟩ | ⟨k, h3, h4, _, h5⟩
  · have hsh : ∀ s ∈ l, s.2 - s.1 < P := fun s hs => by
      obtain ⟨j, hj, rfl⟩ := List.getElem_of_mem hs
      rw [list_fr l hj]
      exact of_decide_eq_true (h3 j hj)
    have hne : ∀ t ∈ l.flatMap (foldP P), t.1 < t.2 ∧ 0 ≤ t.1 ∧ t.1 ≤ P := fun t ht => by
      obtain ⟨s, hs', ht⟩ := List.mem_flatMap.1 ht
      exact foldP_ne hP (hs s hs').1 t ht
    have hb : BndL (l.flatMap (foldP P)) := fun t ht => by have := hne t ht; omega
    have hlen := foldF_len P l
    obtain ⟨j1, j2, j3⟩ := joined_ok hb fun t ht => (hne t ht).1
    have h4' : loop (m_periodic_fold_L1 std l P) (0, ([] : List Sp)) = some (.inr (l.flatMap (foldP P))) := h4
    have hm : ∀ x, Mem (joinL (sortSp (l.flatMap (foldP P)))) x ↔ MemF P l x := fun x => (j2 x).trans (MemF_mem hP hsh)
    refine ⟨joinL (sortSp (l.flatMap (foldP P))), ?_, std_of_mem hP j1 fun x hx => MemF_bd hP ((hm x).1 hx), hm, by omega⟩
    rw [h4']
    exact bB rfl (bB (p_sortSp hb (by omega)) (bB (p_periodic_fold_L2 _ (by rw [sortSp_len]; omega)) rfl))
  · have h5' : loop (m_periodic_fold_L1 std l P) (0, ([] : List Sp)) = some (.inl ()) := h5
    have h6 := of_decide_eq_false h4
    have hm : ∀ x, Mem [((0 : Int), P)] x ↔ MemF P l x := fun x => by
      rw [mem_one]
      constructor
      · intro h
        refine ⟨l[k], List.getElem_mem h3, ?_⟩
        rw [list_fr l h3]
        exact (InF_full hP (by show P ≤ tt l k - fr l k; omega)).2 h
      · exact MemF_bd hP
    refine ⟨[(0, P)], by rw [h5']; rfl, std_of_mem hP (Can.one (by show (0 : Int) < P; omega)) fun x hx => MemF_bd hP ((hm x).1 hx), hm, by simp⟩
end
section
theorem odd_eq (i : Nat) : ((Int.tmod (i : Int) 2) == 1) = oddB i := by
  have h := nat_tmod i 2
  rw [show ((2 : Nat) : Int) = 2 from rfl] at h
  rw [h]
  unfold oddB
  rcases Nat.mod_two_eq_zero_or_one i with e | e <;> rw [e] <;> rfl
theorem p_end (l : List Sp) (hl : l.length ≤ 1099511627776) (n : Nat) (hn : n ≤ 2 * l.length) : m_periodic_combine_1 std (n : Int) l = some (if n < 2 * l.length then (endL l n, true) else (0, false)) := by
  rw [m_periodic_combine_1_eq]
  have h := nat_tdiv n 2
  rw [show ((2 : Nat) : Int) = 2 from rfl] at h
  have h' := nat_tmod n 2
  rw [show ((2 : Nat) : Int) = 2 from rfl] at h'
  rw [h, h']
  refine gZ (by omega) (gI (by omega) ?_)
  by_cases hc : n < 2 * l.length
  · rw [if_pos hc]
    refine bF (dF (by omega)) ?_
    simp only [Int.toNat_natCast, fr_def, tt_def]
    unfold endL
    rcases Nat.mod_two_eq_zero_or_one n with e | e
    · rw [if_pos e]
      exact bT (by rw [e]; rfl) (gX (by omega) (gK (by omega) rfl))
    · rw [if_neg (by omega)]
      exact bF (by rw [e]; rfl) (gX (by omega) (gK (by omega) rfl))
  · rw [if_neg hc]
    exact bT (dT (by omega)) rfl
def rOr (a b : Bool) : Bool := a || b
def rAnd (a b : Bool) : Bool := a && b
def rSub (a b : Bool) : Bool := a && !b
theorem p_Union_1 (a b : Bool) : m_periodic_Union_1 std a b = some (rOr a b) := by rw [m_periodic_Union_1_eq]; cases a <;> cases b <;> rfl
theorem p_Meet_1 (a b : Bool) : m_periodic_Meet_1 std a b = some (rAnd a b) := by rw [m_periodic_Meet_1_eq]; cases a <;> cases b <;> rfl
theorem p_Minus_1 (a b : Bool) : m_periodic_Minus_1 std a b = some (rSub a b) := by rw [m_periodic_Minus_1_eq]; cases a <;> cases b <;> rfl
theorem p_Not_1 (a b : Bool) : m_periodic_Not_1 std a b = some (rSub a b) := by rw [m_periodic_Not_1_eq]; cases a <;> cases b <;> rfl

/-- the new list behind a cut -/
def outC (b20 b21 : Bool) (out : List Sp) (t : Int) : List Sp :=
  if b20 = false ∧ b21 = true then out ++ [(t, 0)] else if b20 = true ∧ b21 = false then out.set (out.length - 1) ((out.getD (out.length - 1) (0, 0)).1, t) else out
theorem outC_len (b20 b21 : Bool) (out : List Sp) (t : Int) : (outC b20 b21 out t).length ≤ out.length + 1 := by
  unfold outC
  split
  · simp
  · split <;> simp
theorem p_periodic_combine_L1 {a b out : List Sp} {i k : Nat} (ha : Can a) (hb : Can b) (hla : a.length ≤ 1000000) (hlb : b.length ≤ 1000000) (h : CombI rOr a b i k out) (hlen : out.length ≤ i + k) (hne : i < 2 * a.length ∨ k < 2 * b.length) :
    ∃ (i' k' : Nat) (out' : List Sp), m_periodic_combine_L1 std a b ((i : Int), (k : Int), out) = some (.inl ((i' : Int), (k' : Int), out')) ∧ CombI rOr a b i' k' out' ∧ i + k < i' + k' ∧ out'.length ≤ i' + k' := by
  obtain ⟨hi, hk⟩ : i ≤ 2 * a.length ∧ k ≤ 2 * b.length := ⟨h.hi, h.hk⟩
  have tail : ∀ (t : Int) (i' k' : Nat), i' ≤ 2 * a.length → k' ≤ 2 * b.length → ((rOr) (oddB i) (oddB k) = true → 0 < out.length) →
      (Option.bind (bif (!(rOr (oddB i) (oddB k))) then (some (rOr (oddB i') (oddB k'))) else (some false) : Option Bool) fun x98 =>
        Option.bind (bif x98 then grd (okRoom (List.length out)) <| grd (okRoom (List.length [(t, (0 : Int))])) <| (some (out ++ [(t, 0)]))
          else Option.bind (bif (rOr (oddB i) (oddB k)) then (some (!(rOr (oddB i') (oddB k')))) else (some false) : Option Bool) fun x100 =>
            Option.bind (bif x100 then grd (okI .i64 (((((List.length out) : Nat) : Int) - 1))) <| grd (okIdx (((((List.length out) : Nat) : Int) - 1)) ((List.length out))) <| grd (okKin ((Int.toNat ((((List.length out) : Nat) : Int) - 1))) ((List.length out))) <|
                (some (List.set out (Int.toNat ((((List.length out) : Nat) : Int) - 1)) ((List.getD out (Int.toNat ((((List.length out) : Nat) : Int) - 1)) (0, 0)).1, t))) else (some out) : Option (List Sp)) fun l63 => (some l63) : Option (List Sp)) fun l65 =>
        (some (Sum.inl ((i' : Int), (k' : Int), l65))) : Option ((Int × Int × List Sp) ⊕ (List Sp))) = some (.inl ((i' : Int), (k' : Int), outC (rOr (oddB i) (oddB k)) (rOr (oddB i') (oddB k')) out t)) := by
    intro t i' k' hi' hk' hpos
    unfold outC
    cases h0 : rOr (oddB i) (oddB k) with
    | false =>
      cases h1 : rOr (oddB i') (oddB k') with
      | true => exact bB rfl (bB (bT rfl (gR (by omega) (gR (by simp) rfl))) rfl)
      | false => exact bB rfl (bB (bF rfl (bB rfl (bB rfl rfl))) rfl)
    | true =>
      have hp := hpos h0
      cases h1 : rOr (oddB i') (oddB k') with
      | true => exact bB rfl (bB (bF rfl (bB rfl (bB rfl rfl))) rfl)
      | false =>
        refine bB rfl (bB (bF rfl (bB rfl (bB (bT rfl (gI (by omega) (gX (by omega) (gK (by omega) rfl)))) rfl))) ?_)
        rw [show Int.toNat (((out.length : Nat) : Int) - 1) = out.length - 1 by omega]; rfl
  have fin : ∀ (t : Int) (i' k' : Nat), (i < 2 * a.length ∧ t = endL a i ∨ k < 2 * b.length ∧ t = endL b k) → (i < 2 * a.length → t ≤ endL a i) → (k < 2 * b.length → t ≤ endL b k) → nxI a i t = i' → nxI b k t = k' →
      CombI rOr a b i' k' (outC (rOr (oddB i) (oddB k)) (rOr (oddB i') (oddB k')) out t) ∧ i + k < i' + k' ∧ (outC (rOr (oddB i) (oddB k)) (rOr (oddB i') (oddB k')) out t).length ≤ i' + k' ∧ i' ≤ 2 * a.length ∧ k' ≤ 2 * b.length ∧ ((rOr) (oddB i) (oddB k) = true → 0 < out.length) := by
    intro t i' k' u1 u2 u3 ei ek
    obtain ⟨out', s1, s2, s3, s4⟩ := h.step ha hb u1 u2 u3
    rw [ei, ek] at s1 s2 s3
    have s3' : out' = outC (rOr (oddB i) (oddB k)) (rOr (oddB i') (oddB k')) out t := s3
    rw [← s3']
    refine ⟨s1, s2, ?_, s1.hi, s1.hk, s4⟩
    have := outC_len (rOr (oddB i) (oddB k)) (rOr (oddB i') (oddB k')) out t
    rw [← s3'] at this
    omega
  rw [m_periodic_combine_L1_eq, p_end a (by omega) i hi, p_end b (by omega) k hk]
  by_cases hA : i < 2 * a.length
  · rw [if_pos hA]
    by_cases hB : k < 2 * b.length
    · rw [if_pos hB]
      by_cases hlt : endL b k < endL a i
      · obtain ⟨f1, f2, f3, f4, f5, f6⟩ := fin (endL b k) i (k + 1) (.inr ⟨hB, rfl⟩) (fun _ => by omega) (fun _ => by omega) (if_neg (by omega)) (if_pos ⟨hB, rfl⟩)
        refine ⟨i, k + 1, _, ?_, f1, f2, f3⟩
        refine bB rfl (bB rfl (bB (v := false) rfl (bF rfl (bB (v := (true, true)) (bF rfl (bT rfl (by rw [dT hlt]))) (bB (v := endL b k) rfl (gZ (by omega) ?_))))))
        rw [odd_eq, odd_eq]
        refine bB (p_Union_1 _ _) (bB (v := false) (bT rfl (congrArg some (eF (by omega)))) (bB (v := (i : Int)) rfl (bB (v := true) (bT rfl (congrArg some (eT rfl))) (bB (v := ((k + 1 : Nat) : Int)) (bT rfl (gI (by omega) rfl)) ?_))))
        rw [odd_eq, odd_eq]
        exact bB (p_Union_1 _ _) (tail _ _ _ f4 f5 f6)
      · by_cases heq : endL b k = endL a i
        · obtain ⟨f1, f2, f3, f4, f5, f6⟩ := fin (endL a i) (i + 1) (k + 1) (.inl ⟨hA, rfl⟩) (fun _ => by omega) (fun _ => by omega) (if_pos ⟨hA, rfl⟩) (if_pos ⟨hB, heq⟩)
          refine ⟨i + 1, k + 1, _, ?_, f1, f2, f3⟩
          refine bB rfl (bB rfl (bB (v := false) rfl (bF rfl (bB (v := (true, false)) (bF rfl (bT rfl (by rw [dF hlt]))) (bB (v := endL a i) rfl (gZ (by omega) ?_))))))
          rw [odd_eq, odd_eq]
          refine bB (p_Union_1 _ _) (bB (v := true) (bT rfl (congrArg some (eT rfl))) (bB (v := ((i + 1 : Nat) : Int)) (bT rfl (gI (by omega) rfl)) (bB (v := true) (bT rfl (congrArg some (eT heq))) (bB (v := ((k + 1 : Nat) : Int)) (bT rfl (gI (by omega) rfl)) ?_))))
          rw [odd_eq, odd_eq]
          exact bB (p_Union_1 _ _) (tail _ _ _ f4 f5 f6)
        · obtain ⟨f1, f2, f3, f4, f5, f6⟩ := fin (endL a i) (i + 1) k (.inl ⟨hA, rfl⟩) (fun _ => by omega) (fun _ => by omega) (if_pos ⟨hA, rfl⟩) (if_neg (by omega))
          refine ⟨i + 1, k, _, ?_, f1, f2, f3⟩
          refine bB rfl (bB rfl (bB (v := false) rfl (bF rfl (bB (v := (true, false)) (bF rfl (bT rfl (by rw [dF hlt]))) (bB (v := endL a i) rfl (gZ (by omega) ?_))))))
          rw [odd_eq, odd_eq]
          refine bB (p_Union_1 _ _) (bB (v := true) (bT rfl (congrArg some (eT rfl))) (bB (v := ((i + 1 : Nat) : Int)) (bT rfl (gI (by omega) rfl)) (bB (v := false) (bT rfl (congrArg some (eF heq))) (bB (v := (k : Int)) rfl ?_))))
          rw [odd_eq, odd_eq]
          exact bB (p_Union_1 _ _) (tail _ _ _ f4 f5 f6)
    · rw [if_neg hB]
      obtain ⟨f1, f2, f3, f4, f5, f6⟩ := fin (endL a i) (i + 1) k (.inl ⟨hA, rfl⟩) (fun _ => by omega) (fun _ => by omega) (if_pos ⟨hA, rfl⟩) (if_neg (by omega))
      refine ⟨i + 1, k, _, ?_, f1, f2, f3⟩
      refine bB rfl (bB rfl (bB (v := false) rfl (bF rfl (bB (v := (false, false)) rfl (bB (v := endL a i) rfl (gZ (by omega) ?_))))))
      rw [odd_eq, odd_eq]
      refine bB (p_Union_1 _ _) (bB (v := true) (bT rfl (congrArg some (eT rfl))) (bB (v := ((i + 1 : Nat) : Int)) (bT rfl (gI (by omega) rfl)) (bB (v := false) rfl (bB (v := (k : Int)) rfl ?_))))
      rw [odd_eq, odd_eq]
      exact bB (p_Union_1 _ _) (tail _ _ _ f4 f5 f6)
  · rw [if_neg hA]
    have hB : k < 2 * b.length := by omega
    rw [if_pos hB]
    obtain ⟨f1, f2, f3, f4, f5, f6⟩ := fin (endL b k) i (k + 1) (.inr ⟨hB, rfl⟩) (fun h => absurd h hA) (fun _ => by omega) (if_neg (by omega)) (if_pos ⟨hB, rfl⟩)
    refine ⟨i, k + 1, _, ?_, f1, f2, f3⟩
    refine bB rfl (bB rfl (bB (v := false) rfl (bF rfl (bB (v := (true, true)) rfl (bB (v := endL b k) rfl (gZ (by omega) ?_))))))
    rw [odd_eq, odd_eq]
    refine bB (p_Union_1 _ _) (bB (v := false) rfl (bB (v := (i : Int)) rfl (bB (v := true) (bT rfl (congrArg some (eT rfl))) (bB (v := ((k + 1 : Nat) : Int)) (bT rfl (gI (by omega) rfl)) ?_))))
    rw [odd_eq, odd_eq]
    exact bB (p_Union_1 _ _) (tail _ _ _ f4 f5 f6)
theorem p_periodic_combine {a b : List Sp} (ha : Can a) (hb : Can b) (hla : a.length ≤ 1000000) (hlb : b.length ≤ 1000000) :
    ∃ r, m_periodic_combine std a b = some r ∧ Can r ∧ (∀ x, Mem r x ↔ R2 rOr a b x = true) ∧ r.length ≤ 2 * a.length + 2 * b.length := by
  have h := loop_is (B := m_periodic_combine_L1 std a b) (y := (0, 0, ([] : List Sp))) (fun y => ∃ i k : Nat, y.1 = (i : Int) ∧ y.2.1 = (k : Int) ∧ CombI rOr a b i k y.2.2 ∧ y.2.2.length ≤ i + k)
    (fun y => 2 * a.length + 2 * b.length - (y.1.toNat + y.2.1.toNat)) (fun r => Can r ∧ (∀ x, Mem r x ↔ R2 rOr a b x = true) ∧ r.length ≤ 2 * a.length + 2 * b.length)
    ⟨0, 0, rfl, rfl, CombI.init rfl ha hb, by simp⟩ (by show _ - _ < _; omega) (by
      rintro ⟨x, z, out⟩ ⟨i, k, h1, h2, hc, hlen⟩
      change x = (i : Int) at h1
      change z = (k : Int) at h2
      subst h1; subst h2
      have hi := hc.hi
      have hk := hc.hk
      by_cases hne : i < 2 * a.length ∨ k < 2 * b.length
      · obtain ⟨i', k', out', e, c1, c2, c3⟩ := p_periodic_combine_L1 ha hb hla hlb hc hlen hne
        refine ⟨_, e, ⟨i', k', rfl, rfl, c1, c3⟩, ?_⟩
        have := c1.hi
        have := c1.hk
        show 2 * a.length + 2 * b.length - ((i' : Int).toNat + (k' : Int).toNat) < 2 * a.length + 2 * b.length - ((i : Int).toNat + (k : Int).toNat)
        simp only [Int.toNat_natCast]
        omega
      · have e1 : i = 2 * a.length := by omega
        have e2 : k = 2 * b.length := by omega
        refine ⟨.inr out, ?_, ?_⟩
        · rw [m_periodic_combine_L1_eq, p_end a (by omega) i hi, p_end b (by omega) k hk, if_neg (by omega), if_neg (by omega)]
          exact bB rfl (bB rfl (bB rfl rfl))
        · subst e1; subst e2
          obtain ⟨d1, d2⟩ := hc.done ha hb rfl
          have hlen' : out.length ≤ 2 * a.length + 2 * b.length := hlen
          exact ⟨d1, d2, hlen'⟩)
  obtain ⟨r, e, h1, h2, h3⟩ := h
  refine ⟨r, ?_, h1, h2, h3⟩
  rw [m_periodic_combine_eq, e]; rfl
theorem p_periodic_combine_2_L1 {a b out : List Sp} {i k : Nat} (ha : Can a) (hb : Can b) (hla : a.length ≤ 1000000) (hlb : b.length ≤ 1000000) (h : CombI rAnd a b i k out) (hlen : out.length ≤ i + k) (hne : i < 2 * a.length ∨ k < 2 * b.length) :
    ∃ (i' k' : Nat) (out' : List Sp), m_periodic_combine_2_L1 std a b ((i : Int), (k : Int), out) = some (.inl ((i' : Int), (k' : Int), out')) ∧ CombI rAnd a b i' k' out' ∧ i + k < i' + k' ∧ out'.length ≤ i' + k' := by
  obtain ⟨hi, hk⟩ : i ≤ 2 * a.length ∧ k ≤ 2 * b.length := ⟨h.hi, h.hk⟩
  have tail : ∀ (t : Int) (i' k' : Nat), i' ≤ 2 * a.length → k' ≤ 2 * b.length → ((rAnd) (oddB i) (oddB k) = true → 0 < out.length) →
      (Option.bind (bif (!(rAnd (oddB i) (oddB k))) then (some (rAnd (oddB i') (oddB k'))) else (some false) : Option Bool) fun x98 =>
        Option.bind (bif x98 then grd (okRoom (List.length out)) <| grd (okRoom (List.length [(t, (0 : Int))])) <| (some (out ++ [(t, 0)]))
          else Option.bind (bif (rAnd (oddB i) (oddB k)) then (some (!(rAnd (oddB i') (oddB k')))) else (some false) : Option Bool) fun x100 =>
            Option.bind (bif x100 then grd (okI .i64 (((((List.length out) : Nat) : Int) - 1))) <| grd (okIdx (((((List.length out) : Nat) : Int) - 1)) ((List.length out))) <| grd (okKin ((Int.toNat ((((List.length out) : Nat) : Int) - 1))) ((List.length out))) <|
                (some (List.set out (Int.toNat ((((List.length out) : Nat) : Int) - 1)) ((List.getD out (Int.toNat ((((List.length out) : Nat) : Int) - 1)) (0, 0)).1, t))) else (some out) : Option (List Sp)) fun l63 => (some l63) : Option (List Sp)) fun l65 =>
        (some (Sum.inl ((i' : Int), (k' : Int), l65))) : Option ((Int × Int × List Sp) ⊕ (List Sp))) = some (.inl ((i' : Int), (k' : Int), outC (rAnd (oddB i) (oddB k)) (rAnd (oddB i') (oddB k')) out t)) := by
    intro t i' k' hi' hk' hpos
    unfold outC
    cases h0 : rAnd (oddB i) (oddB k) with
    | false =>
      cases h1 : rAnd (oddB i') (oddB k') with
      | true => exact bB rfl (bB (bT rfl (gR (by omega) (gR (by simp) rfl))) rfl)
      | false => exact bB rfl (bB (bF rfl (bB rfl (bB rfl rfl))) rfl)
    | true =>
      have hp := hpos h0
      cases h1 : rAnd (oddB i') (oddB k') with
      | true => exact bB rfl (bB (bF rfl (bB rfl (bB rfl rfl))) rfl)
      | false =>
        refine bB rfl (bB (bF rfl (bB rfl (bB (bT rfl (gI (by omega) (gX (by omega) (gK (by omega) rfl)))) rfl))) ?_)
        rw [show Int.toNat (((out.length : Nat) : Int) - 1) = out.length - 1 by omega]; rfl
  have fin : ∀ (t : Int) (i' k' : Nat), (i < 2 * a.length ∧ t = endL a i ∨ k < 2 * b.length ∧ t = endL b k) → (i < 2 * a.length → t ≤ endL a i) → (k < 2 * b.length → t ≤ endL b k) → nxI a i t = i' → nxI b k t = k' →
      CombI rAnd a b i' k' (outC (rAnd (oddB i) (oddB k)) (rAnd (oddB i') (oddB k')) out t) ∧ i + k < i' + k' ∧ (outC (rAnd (oddB i) (oddB k)) (rAnd (oddB i') (oddB k')) out t).length ≤ i' + k' ∧ i' ≤ 2 * a.length ∧ k' ≤ 2 * b.length ∧ ((rAnd) (oddB i) (oddB k) = true → 0 < out.length) := by
    intro t i' k' u1 u2 u3 ei ek
    obtain ⟨out', s1, s2, s3, s4⟩ := h.step ha hb u1 u2 u3
    rw [ei, ek] at s1 s2 s3
    have s3' : out' = outC (rAnd (oddB i) (oddB k)) (rAnd (oddB i') (oddB k')) out t := s3
    rw [← s3']
    refine ⟨s1, s2, ?_, s1.hi, s1.hk, s4⟩
    have := outC_len (rAnd (oddB i) (oddB k)) (rAnd (oddB i') (oddB k')) out t
    rw [← s3'] at this
    omega
  rw [m_periodic_combine_2_L1_eq, p_end a (by omega) i hi, p_end b (by omega) k hk]
  by_cases hA : i < 2 * a.length
  · rw [if_pos hA]
    by_cases hB : k < 2 * b.length
    · rw [if_pos hB]
      by_cases hlt : endL b k < endL a i
      · obtain ⟨f1, f2, f3, f4, f5, f6⟩ := fin (endL b k) i (k + 1) (.inr ⟨hB, rfl⟩) (fun _ => by omega) (fun _ => by omega) (if_neg (by omega)) (if_pos ⟨hB, rfl⟩)
        refine ⟨i, k + 1, _, ?_, f1, f2, f3⟩
        refine bB rfl (bB rfl (bB (v := false) rfl (bF rfl (bB (v := (true, true)) (bF rfl (bT rfl (by rw [dT hlt]))) (bB (v := endL b k) rfl (gZ (by omega) ?_))))))
        rw [odd_eq, odd_eq]
        refine bB (p_Meet_1 _ _) (bB (v := false) (bT rfl (congrArg some (eF (by omega)))) (bB (v := (i : Int)) rfl (bB (v := true) (bT rfl (congrArg some (eT rfl))) (bB (v := ((k + 1 : Nat) : Int)) (bT rfl (gI (by omega) rfl)) ?_))))
        rw [odd_eq, odd_eq]
        exact bB (p_Meet_1 _ _) (tail _ _ _ f4 f5 f6)
      · by_cases heq : endL b k = endL a i
        · obtain ⟨f1, f2, f3, f4, f5, f6⟩ := fin (endL a i) (i + 1) (k + 1) (.inl ⟨hA, rfl⟩) (fun _ => by omega) (fun _ => by omega) (if_pos ⟨hA, rfl⟩) (if_pos ⟨hB, heq⟩)
          refine ⟨i + 1, k + 1, _, ?_, f1, f2, f3⟩
          refine bB rfl (bB rfl (bB (v := false) rfl (bF rfl (bB (v := (true, false)) (bF rfl (bT rfl (by rw [dF hlt]))) (bB (v := endL a i) rfl (gZ (by omega) ?_))))))
          rw [odd_eq, odd_eq]
          refine bB (p_Meet_1 _ _) (bB (v := true) (bT rfl (congrArg some (eT rfl))) (bB (v := ((i + 1 : Nat) : Int)) (bT rfl (gI (by omega) rfl)) (bB (v := true) (bT rfl (congrArg some (eT heq))) (bB (v := ((k + 1 : Nat) : Int)) (bT rfl (gI (by omega) rfl)) ?_))))
          rw [odd_eq, odd_eq]
          exact bB (p_Meet_1 _ _) (tail _ _ _ f4 f5 f6)
        · obtain ⟨f1, f2, f3, f4, f5, f6⟩ := fin (endL a i) (i + 1) k (.inl ⟨hA, rfl⟩) (fun _ => by omega) (fun _ => by omega) (if_pos ⟨hA, rfl⟩) (if_neg (by omega))
          refine ⟨i + 1, k, _, ?_, f1, f2, f3⟩
          refine bB rfl (bB rfl (bB (v := false) rfl (bF rfl (bB (v := (true, false)) (bF rfl (bT rfl (by rw [dF hlt]))) (bB (v := endL a i) rfl (gZ (by omega) ?_))))))
          rw [odd_eq, odd_eq]
          refine bB (p_Meet_1 _ _) (bB (v := true) (bT rfl (congrArg some (eT rfl))) (bB (v := ((i + 1 : Nat) : Int)) (bT rfl (gI (by omega) rfl)) (bB (v := false) (bT rfl (congrArg some (eF heq))) (bB (v := (k : Int)) rfl ?_))))
          rw [odd_eq, odd_eq]
          exact bB (p_Meet_1 _ _) (tail _ _ _ f4 f5 f6)
    · rw [if_neg hB]
      obtain ⟨f1, f2, f3, f4, f5, f6⟩ := fin (endL a i) (i + 1) k (.inl ⟨hA, rfl⟩) (fun _ => by omega) (fun _ => by omega) (if_pos ⟨hA, rfl⟩) (if_neg (by omega))
      refine ⟨i + 1, k, _, ?_, f1, f2, f3⟩
      refine bB rfl (bB rfl (bB (v := false) rfl (bF rfl (bB (v := (false, false)) rfl (bB (v := endL a i) rfl (gZ (by omega) ?_))))))
      rw [odd_eq, odd_eq]
      refine bB (p_Meet_1 _ _) (bB (v := true) (bT rfl (congrArg some (eT rfl))) (bB (v := ((i + 1 : Nat) : Int)) (bT rfl (gI (by omega) rfl)) (bB (v := false) rfl (bB (v := (k : Int)) rfl ?_))))
      rw [odd_eq, odd_eq]
      exact bB (p_Meet_1 _ _) (tail _ _ _ f4 f5 f6)
  · rw [if_neg hA]
    have hB : k < 2 * b.length := by omega
    rw [if_pos hB]
    obtain ⟨f1, f2, f3, f4, f5, f6⟩ := fin (endL b k) i (k + 1) (.inr ⟨hB, rfl⟩) (fun h => absurd h hA) (fun _ => by omega) (if_neg (by omega)) (if_pos ⟨hB, rfl⟩)
    refine ⟨i, k + 1, _, ?_, f1, f2, f3⟩
    refine bB rfl (bB rfl (bB (v := false) rfl (bF rfl (bB (v := (true, true)) rfl (bB (v := endL b k) rfl (gZ (by omega) ?_))))))
    rw [odd_eq, odd_eq]
    refine bB (p_Meet_1 _ _) (bB (v := false) rfl (bB (v := (i : Int)) rfl (bB (v := true) (bT rfl (congrArg some (eT rfl))) (bB (v := ((k + 1 : Nat) : Int)) (bT rfl (gI (by omega) rfl)) ?_))))
    rw [odd_eq, odd_eq]
    exact bB (p_Meet_1 _ _) (tail _ _ _ f4 f5 f6)
theorem p_periodic_combine_2 {a b : List Sp} (ha : Can a) (hb : Can b) (hla : a.length ≤ 1000000) (hlb : b.length ≤ 1000000) :
    ∃ r, m_periodic_combine_2 std a b = some r ∧ Can r ∧ (∀ x, Mem r x ↔ R2 rAnd a b x = true) ∧ r.length ≤ 2 * a.length + 2 * b.length := by
  have h := loop_is (B := m_periodic_combine_2_L1 std a b) (y := (0, 0, ([] : List Sp))) (fun y => ∃ i k : Nat, y.1 = (i : Int) ∧ y.2.1 = (k : Int) ∧ CombI rAnd a b i k y.2.2 ∧ y.2.2.length ≤ i + k)
    (fun y => 2 * a.length + 2 * b.length - (y.1.toNat + y.2.1.toNat)) (fun r => Can r ∧ (∀ x, Mem r x ↔ R2 rAnd a b x = true) ∧ r.length ≤ 2 * a.length + 2 * b.length)
    ⟨0, 0, rfl, rfl, CombI.init rfl ha hb, by simp⟩ (by show _ - _ < _; omega) (by
      rintro ⟨x, z, out⟩ ⟨i, k, h1, h2, hc, hlen⟩
      change x = (i : Int) at h1
      change z = (k : Int) at h2
      subst h1; subst h2
      have hi := hc.hi
      have hk := hc.hk
      by_cases hne : i < 2 * a.length ∨ k < 2 * b.length
      · obtain ⟨i', k', out', e, c1, c2, c3⟩ := p_periodic_combine_2_L1 ha hb hla hlb hc hlen hne
        refine ⟨_, e, ⟨i', k', rfl, rfl, c1, c3⟩, ?_⟩
        have := c1.hi
        have := c1.hk
        show 2 * a.length + 2 * b.length - ((i' : Int).toNat + (k' : Int).toNat) < 2 * a.length + 2 * b.length - ((i : Int).toNat + (k : Int).toNat)
        simp only [Int.toNat_natCast]
        omega
      · have e1 : i = 2 * a.length := by omega
        have e2 : k = 2 * b.length := by omega
        refine ⟨.inr out, ?_, ?_⟩
        · rw [m_periodic_combine_2_L1_eq, p_end a (by omega) i hi, p_end b (by omega) k hk, if_neg (by omega), if_neg (by omega)]
          exact bB rfl (bB rfl (bB rfl rfl))
        · subst e1; subst e2
          obtain ⟨d1, d2⟩ := hc.done ha hb rfl
          have hlen' : out.length ≤ 2 * a.length + 2 * b.length := hlen
          exact ⟨d1, d2, hlen'⟩)
  obtain ⟨r, e, h1, h2, h3⟩ := h
  refine ⟨r, ?_, h1, h2, h3⟩
  rw [m_periodic_combine_2_eq, e]; rfl
theorem p_periodic_combine_3_L1 {a b out : List Sp} {i k : Nat} (ha : Can a) (hb : Can b) (hla : a.length ≤ 1000000) (hlb : b.length ≤ 1000000) (h : CombI rSub a b i k out) (hlen : out.length ≤ i + k) (hne : i < 2 * a.length ∨ k < 2 * b.length) :
    ∃ (i' k' : Nat) (out' : List Sp), m_periodic_combine_3_L1 std a b ((i : Int), (k : Int), out) = some (.inl ((i' : Int), (k' : Int), out')) ∧ CombI rSub a b i' k' out' ∧ i + k < i' + k' ∧ out'.length ≤ i' + k' := by
  obtain ⟨hi, hk⟩ : i ≤ 2 * a.length ∧ k ≤ 2 * b.length := ⟨h.hi, h.hk⟩
  have tail : ∀ (t : Int) (i' k' : Nat), i' ≤ 2 * a.length → k' ≤ 2 * b.length → ((rSub) (oddB i) (oddB k) = true → 0 < out.length) →
      (Option.bind (bif (!(rSub (oddB i) (oddB k))) then (some (rSub (oddB i') (oddB k'))) else (some false) : Option Bool) fun x98 =>
        Option.bind (bif x98 then grd (okRoom (List.length out)) <| grd (okRoom (List.length [(t, (0 : Int))])) <| (some (out ++ [(t, 0)]))
          else Option.bind (bif (rSub (oddB i) (oddB k)) then (some (!(rSub (oddB i') (oddB k')))) else (some false) : Option Bool) fun x100 =>
            Option.bind (bif x100 then grd (okI .i64 (((((List.length out) : Nat) : Int) - 1))) <| grd (okIdx (((((List.length out) : Nat) : Int) - 1)) ((List.length out))) <| grd (okKin ((Int.toNat ((((List.length out) : Nat) : Int) - 1))) ((List.length out))) <|
                (some (List.set out (Int.toNat ((((List.length out) : Nat) : Int) - 1)) ((List.getD out (Int.toNat ((((List.length out) : Nat) : Int) - 1)) (0, 0)).1, t))) else (some out) : Option (List Sp)) fun l63 => (some l63) : Option (List Sp)) fun l65 =>
        (some (Sum.inl ((i' : Int), (k' : Int), l65))) : Option ((Int × Int × List Sp) ⊕ (List Sp))) = some (.inl ((i' : Int), (k' : Int), outC (rSub (oddB i) (oddB k)) (rSub (oddB i') (oddB k')) out t)) := by
    intro t i' k' hi' hk' hpos
    unfold outC
    cases h0 : rSub (oddB i) (oddB k) with
    | false =>
      cases h1 : rSub (oddB i') (oddB k') with
      | true => exact bB rfl (bB (bT rfl (gR (by omega) (gR (by simp) rfl))) rfl)
      | false => exact bB rfl (bB (bF rfl (bB rfl (bB rfl rfl))) rfl)
    | true =>
      have hp := hpos h0
      cases h1 : rSub (oddB i') (oddB k') with
      | true => exact bB rfl (bB (bF rfl (bB rfl (bB rfl rfl))) rfl)
      | false =>
        refine bB rfl (bB (bF rfl (bB rfl (bB (bT rfl (gI (by omega) (gX (by omega) (gK (by omega) rfl)))) rfl))) ?_)
        rw [show Int.toNat (((out.length : Nat) : Int) - 1) = out.length - 1 by omega]; rfl
  have fin : ∀ (t : Int) (i' k' : Nat), (i < 2 * a.length ∧ t = endL a i ∨ k < 2 * b.length ∧ t = endL b k) → (i < 2 * a.length → t ≤ endL a i) → (k < 2 * b.length → t ≤ endL b k) → nxI a i t = i' → nxI b k t = k' →
      CombI rSub a b i' k' (outC (rSub (oddB i) (oddB k)) (rSub (oddB i') (oddB k')) out t) ∧ i + k < i' + k' ∧ (outC (rSub (oddB i) (oddB k)) (rSub (oddB i') (oddB k')) out t).length ≤ i' + k' ∧ i' ≤ 2 * a.length ∧ k' ≤ 2 * b.length ∧ ((rSub) (oddB i) (oddB k) = true → 0 < out.length) := by
    intro t i' k' u1 u2 u3 ei ek
    obtain ⟨out', s1, s2, s3, s4⟩ := h.step ha hb u1 u2 u3
    rw [ei, ek] at s1 s2 s3
    have s3' : out' = outC (rSub (oddB i) (oddB k)) (rSub (oddB i') (oddB k')) out t := s3
    rw [← s3']
    refine ⟨s1, s2, ?_, s1.hi, s1.hk, s4⟩
    have := outC_len (rSub (oddB i) (oddB k)) (rSub (oddB i') (oddB k')) out t
    rw [← s3'] at this
    omega
  rw [m_periodic_combine_3_L1_eq, p_end a (by omega) i hi, p_end b (by omega) k hk]
  by_cases hA : i < 2 * a.length
  · rw [if_pos hA]
    by_cases hB : k < 2 * b.length
    · rw [if_pos hB]
      by_cases hlt : endL b k < endL a i
      · obtain ⟨f1, f2, f3, f4, f5, f6⟩ := fin (endL b k) i (k + 1) (.inr ⟨hB, rfl⟩) (fun _ => by omega) (fun _ => by omega) (if_neg (by omega)) (if_pos ⟨hB, rfl⟩)
        refine ⟨i, k + 1, _, ?_, f1, f2, f3⟩
        refine bB rfl (bB rfl (bB (v := false) rfl (bF rfl (bB (v := (true, true)) (bF rfl (bT rfl (by rw [dT hlt]))) (bB (v := endL b k) rfl (gZ (by omega) ?_))))))
        rw [odd_eq, odd_eq]
        refine bB (p_Minus_1 _ _) (bB (v := false) (bT rfl (congrArg some (eF (by omega)))) (bB (v := (i : Int)) rfl (bB (v := true) (bT rfl (congrArg some (eT rfl))) (bB (v := ((k + 1 : Nat) : Int)) (bT rfl (gI (by omega) rfl)) ?_))))
        rw [odd_eq, odd_eq]
        exact bB (p_Minus_1 _ _) (tail _ _ _ f4 f5 f6)
      · by_cases heq : endL b k = endL a i
        · obtain ⟨f1, f2, f3, f4, f5, f6⟩ := fin (endL a i) (i + 1) (k + 1) (.inl ⟨hA, rfl⟩) (fun _ => by omega) (fun _ => by omega) (if_pos ⟨hA, rfl⟩) (if_pos ⟨hB, heq⟩)
          refine ⟨i + 1, k + 1, _, ?_, f1, f2, f3⟩
          refine bB rfl (bB rfl (bB (v := false) rfl (bF rfl (bB (v := (true, false)) (bF rfl (bT rfl (by rw [dF hlt]))) (bB (v := endL a i) rfl (gZ (by omega) ?_))))))
          rw [odd_eq, odd_eq]
          refine bB (p_Minus_1 _ _) (bB (v := true) (bT rfl (congrArg some (eT rfl))) (bB (v := ((i + 1 : Nat) : Int)) (bT rfl (gI (by omega) rfl)) (bB (v := true) (bT rfl (congrArg some (eT heq))) (bB (v := ((k + 1 : Nat) : Int)) (bT rfl (gI (by omega) rfl)) ?_))))
          rw [odd_eq, odd_eq]
          exact bB (p_Minus_1 _ _) (tail _ _ _ f4 f5 f6)
        · obtain ⟨f1, f2, f3, f4, f5, f6⟩ := fin (endL a i) (i + 1) k (.inl ⟨hA, rfl⟩) (fun _ => by omega) (fun _ => by omega) (if_pos ⟨hA, rfl⟩) (if_neg (by omega))
          refine ⟨i + 1, k, _, ?_, f1, f2, f3⟩
          refine bB rfl (bB rfl (bB (v := false) rfl (bF rfl (bB (v := (true, false)) (bF rfl (bT rfl (by rw [dF hlt]))) (bB (v := endL a i) rfl (gZ (by omega) ?_))))))
          rw [odd_eq, odd_eq]
          refine bB (p_Minus_1 _ _) (bB (v := true) (bT rfl (congrArg some (eT rfl))) (bB (v := ((i + 1 : Nat) : Int)) (bT rfl (gI (by omega) rfl)) (bB (v := false) (bT rfl (congrArg some (eF heq))) (bB (v := (k : Int)) rfl ?_))))
          rw [odd_eq, odd_eq]
          exact bB (p_Minus_1 _ _) (tail _ _ _ f4 f5 f6)
    · rw [if_neg hB]
      obtain ⟨f1, f2, f3, f4, f5, f6⟩ := fin (endL a i) (i + 1) k (.inl ⟨hA, rfl⟩) (fun _ => by omega) (fun _ => by omega) (if_pos ⟨hA, rfl⟩) (if_neg (by omega))
      refine ⟨i + 1, k, _, ?_, f1, f2, f3⟩
      refine bB rfl (bB rfl (bB (v := false) rfl (bF rfl (bB (v := (false, false)) rfl (bB (v := endL a i) rfl (gZ (by omega) ?_))))))
      rw [odd_eq, odd_eq]
      refine bB (p_Minus_1 _ _) (bB (v := true) (bT rfl (congrArg some (eT rfl))) (bB (v := ((i + 1 : Nat) : Int)) (bT rfl (gI (by omega) rfl)) (bB (v := false) rfl (bB (v := (k : Int)) rfl ?_))))
      rw [odd_eq, odd_eq]
      exact bB (p_Minus_1 _ _) (tail _ _ _ f4 f5 f6)
  · rw [if_neg hA]
    have hB : k < 2 * b.length := by omega
    rw [if_pos hB]
    obtain ⟨f1, f2, f3, f4, f5, f6⟩ := fin (endL b k) i (k + 1) (.inr ⟨hB, rfl⟩) (fun h => absurd h hA) (fun _ => by omega) (if_neg (by omega)) (if_pos ⟨hB, rfl⟩)
    refine ⟨i, k + 1, _, ?_, f1, f2, f3⟩
    refine bB rfl (bB rfl (bB (v := false) rfl (bF rfl (bB (v := (true, true)) rfl (bB (v := endL b k) rfl (gZ (by omega) ?_))))))
    rw [odd_eq, odd_eq]
    refine bB (p_Minus_1 _ _) (bB (v := false) rfl (bB (v := (i : Int)) rfl (bB (v := true) (bT rfl (congrArg some (eT rfl))) (bB (v := ((k + 1 : Nat) : Int)) (bT rfl (gI (by omega) rfl)) ?_))))
    rw [odd_eq, odd_eq]
    exact bB (p_Minus_1 _ _) (tail _ _ _ f4 f5 f6)
theorem p_periodic_combine_3 {a b : List Sp} (ha : Can a) (hb : Can b) (hla : a.length ≤ 1000000) (hlb : b.length ≤ 1000000) :
    ∃ r, m_periodic_combine_3 std a b = some r ∧ Can r ∧ (∀ x, Mem r x ↔ R2 rSub a b x = true) ∧ r.length ≤ 2 * a.length + 2 * b.length := by
  have h := loop_is (B := m_periodic_combine_3_L1 std a b) (y := (0, 0, ([] : List Sp))) (fun y => ∃ i k : Nat, y.1 = (i : Int) ∧ y.2.1 = (k : Int) ∧ CombI rSub a b i k y.2.2 ∧ y.2.2.length ≤ i + k)
    (fun y => 2 * a.length + 2 * b.length - (y.1.toNat + y.2.1.toNat)) (fun r => Can r ∧ (∀ x, Mem r x ↔ R2 rSub a b x = true) ∧ r.length ≤ 2 * a.length + 2 * b.length)
    ⟨0, 0, rfl, rfl, CombI.init rfl ha hb, by simp⟩ (by show _ - _ < _; omega) (by
      rintro ⟨x, z, out⟩ ⟨i, k, h1, h2, hc, hlen⟩
      change x = (i : Int) at h1
      change z = (k : Int) at h2
      subst h1; subst h2
      have hi := hc.hi
      have hk := hc.hk
      by_cases hne : i < 2 * a.length ∨ k < 2 * b.length
      · obtain ⟨i', k', out', e, c1, c2, c3⟩ := p_periodic_combine_3_L1 ha hb hla hlb hc hlen hne
        refine ⟨_, e, ⟨i', k', rfl, rfl, c1, c3⟩, ?_⟩
        have := c1.hi
        have := c1.hk
        show 2 * a.length + 2 * b.length - ((i' : Int).toNat + (k' : Int).toNat) < 2 * a.length + 2 * b.length - ((i : Int).toNat + (k : Int).toNat)
        simp only [Int.toNat_natCast]
        omega
      · have e1 : i = 2 * a.length := by omega
        have e2 : k = 2 * b.length := by omega
        refine ⟨.inr out, ?_, ?_⟩
        · rw [m_periodic_combine_3_L1_eq, p_end a (by omega) i hi, p_end b (by omega) k hk, if_neg (by omega), if_neg (by omega)]
          exact bB rfl (bB rfl (bB rfl rfl))
        · subst e1; subst e2
          obtain ⟨d1, d2⟩ := hc.done ha hb rfl
          have hlen' : out.length ≤ 2 * a.length + 2 * b.length := hlen
          exact ⟨d1, d2, hlen'⟩)
  obtain ⟨r, e, h1, h2, h3⟩ := h
  refine ⟨r, ?_, h1, h2, h3⟩
  rw [m_periodic_combine_3_eq, e]; rfl
theorem p_periodic_combine_4_L1 {a b out : List Sp} {i k : Nat} (ha : Can a) (hb : Can b) (hla : a.length ≤ 1000000) (hlb : b.length ≤ 1000000) (h : CombI rSub a b i k out) (hlen : out.length ≤ i + k) (hne : i < 2 * a.length ∨ k < 2 * b.length) :
    ∃ (i' k' : Nat) (out' : List Sp), m_periodic_combine_4_L1 std a b ((i : Int), (k : Int), out) = some (.inl ((i' : Int), (k' : Int), out')) ∧ CombI rSub a b i' k' out' ∧ i + k < i' + k' ∧ out'.length ≤ i' + k' := by
  obtain ⟨hi, hk⟩ : i ≤ 2 * a.length ∧ k ≤ 2 * b.length := ⟨h.hi, h.hk⟩
  have tail : ∀ (t : Int) (i' k' : Nat), i' ≤ 2 * a.length → k' ≤ 2 * b.length → ((rSub) (oddB i) (oddB k) = true → 0 < out.length) →
      (Option.bind (bif (!(rSub (oddB i) (oddB k))) then (some (rSub (oddB i') (oddB k'))) else (some false) : Option Bool) fun x98 =>
        Option.bind (bif x98 then grd (okRoom (List.length out)) <| grd (okRoom (List.length [(t, (0 : Int))])) <| (some (out ++ [(t, 0)]))
          else Option.bind (bif (rSub (oddB i) (oddB k)) then (some (!(rSub (oddB i') (oddB k')))) else (some false) : Option Bool) fun x100 =>
            Option.bind (bif x100 then grd (okI .i64 (((((List.length out) : Nat) : Int) - 1))) <| grd (okIdx (((((List.length out) : Nat) : Int) - 1)) ((List.length out))) <| grd (okKin ((Int.toNat ((((List.length out) : Nat) : Int) - 1))) ((List.length out))) <|
                (some (List.set out (Int.toNat ((((List.length out) : Nat) : Int) - 1)) ((List.getD out (Int.toNat ((((List.length out) : Nat) : Int) - 1)) (0, 0)).1, t))) else (some out) : Option (List Sp)) fun l63 => (some l63) : Option (List Sp)) fun l65 =>
        (some (Sum.inl ((i' : Int), (k' : Int), l65))) : Option ((Int × Int × List Sp) ⊕ (List Sp))) = some (.inl ((i' : Int), (k' : Int), outC (rSub (oddB i) (oddB k)) (rSub (oddB i') (oddB k')) out t)) := by
    intro t i' k' hi' hk' hpos
    unfold outC
    cases h0 : rSub (oddB i) (oddB k) with
    | false =>
      cases h1 : rSub (oddB i') (oddB k') with
      | true => exact bB rfl (bB (bT rfl (gR (by omega) (gR (by simp) rfl))) rfl)
      | false => exact bB rfl (bB (bF rfl (bB rfl (bB rfl rfl))) rfl)
    | true =>
      have hp := hpos h0
      cases h1 : rSub (oddB i') (oddB k') with
      | true => exact bB rfl (bB (bF rfl (bB rfl (bB rfl rfl))) rfl)
      | false =>
        refine bB rfl (bB (bF rfl (bB rfl (bB (bT rfl (gI (by omega) (gX (by omega) (gK (by omega) rfl)))) rfl))) ?_)
        rw [show Int.toNat (((out.length : Nat) : Int) - 1) = out.length - 1 by omega]; rfl
  have fin : ∀ (t : Int) (i' k' : Nat), (i < 2 * a.length ∧ t = endL a i ∨ k < 2 * b.length ∧ t = endL b k) → (i < 2 * a.length → t ≤ endL a i) → (k < 2 * b.length → t ≤ endL b k) → nxI a i t = i' → nxI b k t = k' →
      CombI rSub a b i' k' (outC (rSub (oddB i) (oddB k)) (rSub (oddB i') (oddB k')) out t) ∧ i + k < i' + k' ∧ (outC (rSub (oddB i) (oddB k)) (rSub (oddB i') (oddB k')) out t).length ≤ i' + k' ∧ i' ≤ 2 * a.length ∧ k' ≤ 2 * b.length ∧ ((rSub) (oddB i) (oddB k) = true → 0 < out.length) := by
    intro t i' k' u1 u2 u3 ei ek
    obtain ⟨out', s1, s2, s3, s4⟩ := h.step ha hb u1 u2 u3
    rw [ei, ek] at s1 s2 s3
    have s3' : out' = outC (rSub (oddB i) (oddB k)) (rSub (oddB i') (oddB k')) out t := s3
    rw [← s3']
    refine ⟨s1, s2, ?_, s1.hi, s1.hk, s4⟩
    have := outC_len (rSub (oddB i) (oddB k)) (rSub (oddB i') (oddB k')) out t
    rw [← s3'] at this
    omega
  rw [m_periodic_combine_4_L1_eq, p_end a (by omega) i hi, p_end b (by omega) k hk]
  by_cases hA : i < 2 * a.length
  · rw [if_pos hA]
    by_cases hB : k < 2 * b.length
    · rw [if_pos hB]
      by_cases hlt : endL b k < endL a i
      · obtain ⟨f1, f2, f3, f4, f5, f6⟩ := fin (endL b k) i (k + 1) (.inr ⟨hB, rfl⟩) (fun _ => by omega) (fun _ => by omega) (if_neg (by omega)) (if_pos ⟨hB, rfl⟩)
        refine ⟨i, k + 1, _, ?_, f1, f2, f3⟩
        refine bB rfl (bB rfl (bB (v := false) rfl (bF rfl (bB (v := (true, true)) (bF rfl (bT rfl (by rw [dT hlt]))) (bB (v := endL b k) rfl (gZ (by omega) ?_))))))
        rw [odd_eq, odd_eq]
        refine bB (p_Not_1 _ _) (bB (v := false) (bT rfl (congrArg some (eF (by omega)))) (bB (v := (i : Int)) rfl (bB (v := true) (bT rfl (congrArg some (eT rfl))) (bB (v := ((k + 1 : Nat) : Int)) (bT rfl (gI (by omega) rfl)) ?_))))
        rw [odd_eq, odd_eq]
        exact bB (p_Not_1 _ _) (tail _ _ _ f4 f5 f6)
      · by_cases heq : endL b k = endL a i
        · obtain ⟨f1, f2, f3, f4, f5, f6⟩ := fin (endL a i) (i + 1) (k + 1) (.inl ⟨hA, rfl⟩) (fun _ => by omega) (fun _ => by omega) (if_pos ⟨hA, rfl⟩) (if_pos ⟨hB, heq⟩)
          refine ⟨i + 1, k + 1, _, ?_, f1, f2, f3⟩
          refine bB rfl (bB rfl (bB (v := false) rfl (bF rfl (bB (v := (true, false)) (bF rfl (bT rfl (by rw [dF hlt]))) (bB (v := endL a i) rfl (gZ (by omega) ?_))))))
          rw [odd_eq, odd_eq]
          refine bB (p_Not_1 _ _) (bB (v := true) (bT rfl (congrArg some (eT rfl))) (bB (v := ((i + 1 : Nat) : Int)) (bT rfl (gI (by omega) rfl)) (bB (v := true) (bT rfl (congrArg some (eT heq))) (bB (v := ((k + 1 : Nat) : Int)) (bT rfl (gI (by omega) rfl)) ?_))))
          rw [odd_eq, odd_eq]
          exact bB (p_Not_1 _ _) (tail _ _ _ f4 f5 f6)
        · obtain ⟨f1, f2, f3, f4, f5, f6⟩ := fin (endL a i) (i + 1) k (.inl ⟨hA, rfl⟩) (fun _ => by omega) (fun _ => by omega) (if_pos ⟨hA, rfl⟩) (if_neg (by omega))
          refine ⟨i + 1, k, _, ?_, f1, f2, f3⟩
          refine bB rfl (bB rfl (bB (v := false) rfl (bF rfl (bB (v := (true, false)) (bF rfl (bT rfl (by rw [dF hlt]))) (bB (v := endL a i) rfl (gZ (by omega) ?_))))))
          rw [odd_eq, odd_eq]
          refine bB (p_Not_1 _ _) (bB (v := true) (bT rfl (congrArg some (eT rfl))) (bB (v := ((i + 1 : Nat) : Int)) (bT rfl (gI (by omega) rfl)) (bB (v := false) (bT rfl (congrArg some (eF heq))) (bB (v := (k : Int)) rfl ?_))))
          rw [odd_eq, odd_eq]
          exact bB (p_Not_1 _ _) (tail _ _ _ f4 f5 f6)
    · rw [if_neg hB]
      obtain ⟨f1, f2, f3, f4, f5, f6⟩ := fin (endL a i) (i + 1) k (.inl ⟨hA, rfl⟩) (fun _ => by omega) (fun _ => by omega) (if_pos ⟨hA, rfl⟩) (if_neg (by omega))
      refine ⟨i + 1, k, _, ?_, f1, f2, f3⟩
      refine bB rfl (bB rfl (bB (v := false) rfl (bF rfl (bB (v := (false, false)) rfl (bB (v := endL a i) rfl (gZ (by omega) ?_))))))
      rw [odd_eq, odd_eq]
      refine bB (p_Not_1 _ _) (bB (v := true) (bT rfl (congrArg some (eT rfl))) (bB (v := ((i + 1 : Nat) : Int)) (bT rfl (gI (by omega) rfl)) (bB (v := false) rfl (bB (v := (k : Int)) rfl ?_))))
      rw [odd_eq, odd_eq]
      exact bB (p_Not_1 _ _) (tail _ _ _ f4 f5 f6)
  · rw [if_neg hA]
    have hB : k < 2 * b.length := by omega
    rw [if_pos hB]
    obtain ⟨f1, f2, f3, f4, f5, f6⟩ := fin (endL b k) i (k + 1) (.inr ⟨hB, rfl⟩) (fun h => absurd h hA) (fun _ => by omega) (if_neg (by omega)) (if_pos ⟨hB, rfl⟩)
    refine ⟨i, k + 1, _, ?_, f1, f2, f3⟩
    refine bB rfl (bB rfl (bB (v := false) rfl (bF rfl (bB (v := (true, true)) rfl (bB (v := endL b k) rfl (gZ (by omega) ?_))))))
    rw [odd_eq, odd_eq]
    refine bB (p_Not_1 _ _) (bB (v := false) rfl (bB (v := (i : Int)) rfl (bB (v := true) (bT rfl (congrArg some (eT rfl))) (bB (v := ((k + 1 : Nat) : Int)) (bT rfl (gI (by omega) rfl)) ?_))))
    rw [odd_eq, odd_eq]
    exact bB (p_Not_1 _ _) (tail _ _ _ f4 f5 f6)
theorem p_periodic_combine_4 {a b : List Sp} (ha : Can a) (hb : Can b) (hla : a.length ≤ 1000000) (hlb : b.length ≤ 1000000) :
    ∃ r, m_periodic_combine_4 std a b = some r ∧ Can r ∧ (∀ x, Mem r x ↔ R2 rSub a b x = true) ∧ r.length ≤ 2 * a.length + 2 * b.length := by
  have h := loop_is (B := m_periodic_combine_4_L1 std a b) (y := (0, 0, ([] : List Sp))) (fun y => ∃ i k : Nat, y.1 = (i : Int) ∧ y.2.1 = (k : Int) ∧ CombI rSub a b i k y.2.2 ∧ y.2.2.length ≤ i + k)
    (fun y => 2 * a.length + 2 * b.length - (y.1.toNat + y.2.1.toNat)) (fun r => Can r ∧ (∀ x, Mem r x ↔ R2 rSub a b x = true) ∧ r.length ≤ 2 * a.length + 2 * b.length)
    ⟨0, 0, rfl, rfl, CombI.init rfl ha hb, by simp⟩ (by show _ - _ < _; omega) (by
      rintro ⟨x, z, out⟩ ⟨i, k, h1, h2, hc, hlen⟩
      change x = (i : Int) at h1
      change z = (k : Int) at h2
      subst h1; subst h2
      have hi := hc.hi
      have hk := hc.hk
      by_cases hne : i < 2 * a.length ∨ k < 2 * b.length
      · obtain ⟨i', k', out', e, c1, c2, c3⟩ := p_periodic_combine_4_L1 ha hb hla hlb hc hlen hne
        refine ⟨_, e, ⟨i', k', rfl, rfl, c1, c3⟩, ?_⟩
        have := c1.hi
        have := c1.hk
        show 2 * a.length + 2 * b.length - ((i' : Int).toNat + (k' : Int).toNat) < 2 * a.length + 2 * b.length - ((i : Int).toNat + (k : Int).toNat)
        simp only [Int.toNat_natCast]
        omega
      · have e1 : i = 2 * a.length := by omega
        have e2 : k = 2 * b.length := by omega
        refine ⟨.inr out, ?_, ?_⟩
        · rw [m_periodic_combine_4_L1_eq, p_end a (by omega) i hi, p_end b (by omega) k hk, if_neg (by omega), if_neg (by omega)]
          exact bB rfl (bB rfl (bB rfl rfl))
        · subst e1; subst e2
          obtain ⟨d1, d2⟩ := hc.done ha hb rfl
          have hlen' : out.length ≤ 2 * a.length + 2 * b.length := hlen
          exact ⟨d1, d2, hlen'⟩)
  obtain ⟨r, e, h1, h2, h3⟩ := h
  refine ⟨r, ?_, h1, h2, h3⟩
  rw [m_periodic_combine_4_eq, e]; rfl
end
section
/-! the ends of a list -/
def endsF (l : List Sp) (n : Nat) : List Int := (List.range n).map (endL l)
theorem endsF_len (l : List Sp) (n : Nat) : (endsF l n).length = n := by simp [endsF]
theorem endsF_succ (l : List Sp) (n : Nat) : endsF l (n + 1) = endsF l n ++ [endL l n] := by simp [endsF, List.range_succ]
theorem endsF_get (l : List Sp) {n j : Nat} (h : j < n) : (endsF l n).getD j 0 = endL l j := by simp [endsF, List.getD_eq_getElem?_getD, h]
theorem p_ref13_ends_L1 (l : List Sp) (hl : l.length ≤ 1000000) : loop (m_ref13_ends_L1 std l) (0, ([] : List Int)) = some (endsF l (2 * l.length)) := by
  have h := loop_up (B := m_ref13_ends_L1 std l) (n := l.length) (fun i => endsF l (2 * i)) (e := endsF l (2 * l.length)) (by omega) (fun i hi => by
    rw [m_ref13_ends_L1_eq]
    simp only [Int.toNat_natCast, fr_def, tt_def]
    refine bT (dT (by omega)) (gX (by omega) (gK hi (gR (by rw [endsF_len]; omega) (gR (by simp) (gI (by omega) ?_)))))
    rw [show 2 * (i + 1) = 2 * i + 1 + 1 by omega, endsF_succ, endsF_succ, endL_even, endL_odd, List.append_assoc]; rfl) (by
    rw [m_ref13_ends_L1_eq]
    exact bF (dF (by omega)) rfl)
  exact h
theorem p_ref13_ends_L2 (l : List Sp) (hl : l.length ≤ 1000000) : loop (m_ref13_ends_L2 std l) (0, ([] : List Int)) = some (endsF l (2 * l.length)) := by
  have h := loop_up (B := m_ref13_ends_L2 std l) (n := l.length) (fun i => endsF l (2 * i)) (e := endsF l (2 * l.length)) (by omega) (fun i hi => by
    rw [m_ref13_ends_L2_eq]
    simp only [Int.toNat_natCast, fr_def, tt_def]
    refine bT (dT (by omega)) (gX (by omega) (gK hi (gR (by rw [endsF_len]; omega) (gR (by simp) (gI (by omega) ?_)))))
    rw [show 2 * (i + 1) = 2 * i + 1 + 1 by omega, endsF_succ, endsF_succ, endL_even, endL_odd, List.append_assoc]; rfl) (by
    rw [m_ref13_ends_L2_eq]
    exact bF (dF (by omega)) rfl)
  exact h
structure MrgI (a b : List Sp) (i k : Nat) (out : List Int) : Prop where
  hi : i ≤ 2 * a.length
  hk : k ≤ 2 * b.length
  len : out.length = i + k
  up : out.Pairwise (· ≤ ·)
  la : ∀ c ∈ out, (i < 2 * a.length → c ≤ endL a i) ∧ (k < 2 * b.length → c ≤ endL b k)
  ia : ∀ j, j < i → endL a j ∈ out
  ib : ∀ j, j < k → endL b j ∈ out
theorem MrgI.symm {a b : List Sp} {i k : Nat} {out : List Int} (h : MrgI a b i k out) : MrgI b a k i out :=
  ⟨h.hk, h.hi, by rw [h.len]; omega, h.up, fun c hc => (h.la c hc).symm, h.ib, h.ia⟩
theorem MrgI.left {a b : List Sp} (ha : Can a) {i k : Nat} {out : List Int} (h : MrgI a b i k out) (hi : i < 2 * a.length) (hle : k < 2 * b.length → endL a i ≤ endL b k) : MrgI a b (i + 1) k (out ++ [endL a i]) := by
  refine ⟨hi, h.hk, by simp [h.len]; omega, List.pairwise_append.2 ⟨h.up, List.pairwise_singleton _ _, fun c hc d hd => by rw [List.mem_singleton.1 hd]; exact (h.la c hc).1 hi⟩, fun c hc => ?_, fun j hj => ?_, fun j hj => List.mem_append_left _ (h.ib j hj)⟩
  · rcases List.mem_append.1 hc with hc | hc
    · have := h.la c hc
      refine ⟨fun h2 => ?_, this.2⟩
      have := endL_up ha h2
      have := this
      have := (h.la c hc).1 hi
      omega
    · rw [List.mem_singleton.1 hc]
      exact ⟨fun h2 => by have := endL_up ha h2; omega, hle⟩
  · by_cases e : j = i
    · subst e; simp
    · exact List.mem_append_left _ (h.ia j (by omega))
theorem p_ref13_ends {a b : List Sp} (ha : Can a) (hb : Can b) (hla : a.length ≤ 1000000) (hlb : b.length ≤ 1000000) : ∃ out, m_ref13_ends std a b = some out ∧ MrgI a b (2 * a.length) (2 * b.length) out := by
  have h := loop_is (B := m_ref13_ends_L3 std (endsF a (2 * a.length)) (endsF b (2 * b.length))) (y := (0, 0, ([] : List Int))) (fun y => ∃ i k : Nat, y.1 = (i : Int) ∧ y.2.1 = (k : Int) ∧ MrgI a b i k y.2.2)
    (fun y => 2 * a.length + 2 * b.length - (y.1.toNat + y.2.1.toNat)) (fun r => MrgI a b (2 * a.length) (2 * b.length) r)
    ⟨0, 0, rfl, rfl, ⟨by omega, by omega, rfl, List.Pairwise.nil, fun c hc => (by cases hc), fun j hj => by omega, fun j hj => by omega⟩⟩ (by show _ - _ < _; omega) (by
      rintro ⟨x, z, out⟩ ⟨i, k, h1, h2, hc⟩
      change x = (i : Int) at h1
      change z = (k : Int) at h2
      subst h1; subst h2
      have hi := hc.hi
      have hk := hc.hk
      have hlen : out.length = i + k := hc.len
      have hmu : ∀ i' k' : Nat, i' ≤ 2 * a.length → k' ≤ 2 * b.length → i + k < i' + k' → 2 * a.length + 2 * b.length - ((i' : Int).toNat + (k' : Int).toNat) < 2 * a.length + 2 * b.length - ((i : Int).toNat + (k : Int).toNat) := fun i' k' _ _ _ => by
        simp only [Int.toNat_natCast]; omega
      rw [m_ref13_ends_L3_eq, endsF_len, endsF_len]
      simp only [Int.toNat_natCast]
      by_cases hA : i < 2 * a.length
      · simp only [endsF_get a hA]
        by_cases hL : k < 2 * b.length → endL a i ≤ endL b k
        · refine ⟨.inl (((i + 1 : Nat) : Int), (k : Int), out ++ [endL a i]), ?_, ⟨i + 1, k, rfl, rfl, hc.left ha hA hL⟩, hmu (i + 1) k (by omega) (by omega) (by omega)⟩
          refine bB (v := true) (bT (dT (by omega)) rfl) (bT rfl (bB (v := true) ?_ (bB (v := (((i + 1 : Nat) : Int), (k : Int), out ++ [endL a i])) (bT rfl (gX (by omega) (gK (by omega) (gR (by omega) (gR (by simp) (gI (by omega) rfl)))))) rfl)))
          by_cases hB : k < 2 * b.length
          · refine bF (eF (by omega)) (bT (dT (by omega)) (gX (by omega) (gK (by omega) (gX (by omega) (gK (by omega) (congrArg some ?_))))))
            simp only [endsF_get b hB]
            exact dT (hL hB)
          · exact bT (eT (by omega)) rfl
        · have hB : k < 2 * b.length := Classical.byContradiction fun h => hL fun h' => absurd h' h
          have hlt : endL b k < endL a i := by
            rcases Int.lt_or_le (endL b k) (endL a i) with h | h
            · exact h
            · exact absurd (fun _ => h) hL
          refine ⟨.inl ((i : Int), ((k + 1 : Nat) : Int), out ++ [endL b k]), ?_, ⟨i, k + 1, rfl, rfl, (hc.symm.left hb hB (fun _ => by omega)).symm⟩, hmu i (k + 1) (by omega) (by omega) (by omega)⟩
          simp only [endsF_get b hB]
          exact bB (v := true) (bT (dT (by omega)) rfl) (bT rfl (bB (v := false) (bF (eF (by omega)) (bT (dT (by omega)) (gX (by omega) (gK (by omega) (gX (by omega) (gK (by omega) (congrArg some (dF (by omega))))))))) (bB (v := ((i : Int), ((k + 1 : Nat) : Int), out ++ [endL b k])) (bF rfl (gX (by omega) (gK (by omega) (gR (by omega) (gR (by simp) (gI (by omega) rfl)))))) rfl)))
      · by_cases hB : k < 2 * b.length
        · refine ⟨.inl ((i : Int), ((k + 1 : Nat) : Int), out ++ [endL b k]), ?_, ⟨i, k + 1, rfl, rfl, (hc.symm.left hb hB (fun h => absurd h hA)).symm⟩, hmu i (k + 1) (by omega) (by omega) (by omega)⟩
          simp only [endsF_get b hB]
          exact bB (v := true) (bF (dF (by omega)) (congrArg some (dT (by omega)))) (bT rfl (bB (v := false) (bF (eF (by omega)) (bF (dF (by omega)) rfl)) (bB (v := ((i : Int), ((k + 1 : Nat) : Int), out ++ [endL b k])) (bF rfl (gX (by omega) (gK (by omega) (gR (by omega) (gR (by simp) (gI (by omega) rfl)))))) rfl)))
        · have e1 : i = 2 * a.length := by omega
          have e2 : k = 2 * b.length := by omega
          refine ⟨.inr out, bB (v := false) (bF (dF (by omega)) (congrArg some (dF (by omega)))) (bF rfl rfl), ?_⟩
          subst e1; subst e2
          exact hc)
  obtain ⟨out, e, ho⟩ := h
  refine ⟨out, ?_, ho⟩
  rw [m_ref13_ends_eq, p_ref13_ends_L1 a hla]
  refine bB rfl ?_
  rw [p_ref13_ends_L2 b hlb]
  exact bB rfl (bB e rfl)

/-! lists cut out by a rule -/
theorem memB_const {l : List Sp} {x y : Int} (h : ∀ n, n < 2 * l.length → ¬ (x < endL l n ∧ endL l n ≤ y)) (hxy : x ≤ y) : memB l y = memB l x := by
  rw [Bool.eq_iff_iff, memB_iff, memB_iff, mem_idx, mem_idx]
  refine exists_congr fun j => ?_
  refine and_congr_right fun hj => ?_
  have h1 := h (2 * j) (by omega)
  have h2 := h (2 * j + 1) (by omega)
  rw [endL_even] at h1
  rw [endL_odd] at h2
  omega
theorem p_ref13_Lists_L1 {l : List Sp} (hl : l.length ≤ 1000000) {cuts : List Int} {c i0 : Nat} (hi0 : i0 ≤ l.length) (h0 : ∀ j, j < i0 → tt l j ≤ cuts.getD c 0) :
    ∃ i : Nat, loop (m_ref13_Lists_L1 std l (c : Int) cuts) (i0 : Int) = some (i : Int) ∧ i ≤ l.length ∧ (∀ j, j < i → tt l j ≤ cuts.getD c 0) ∧ (i < l.length → cuts.getD c 0 < tt l i) := by
  have h := loop_is (B := m_ref13_Lists_L1 std l (c : Int) cuts) (y := (i0 : Int)) (fun y => ∃ i : Nat, y = (i : Int) ∧ i ≤ l.length ∧ ∀ j, j < i → tt l j ≤ cuts.getD c 0)
    (fun y => l.length - y.toNat) (fun r => ∃ i : Nat, r = (i : Int) ∧ i ≤ l.length ∧ (∀ j, j < i → tt l j ≤ cuts.getD c 0) ∧ (i < l.length → cuts.getD c 0 < tt l i)) ⟨i0, rfl, hi0, h0⟩ (by simp only [Int.toNat_natCast]; omega) (by
      rintro y ⟨i, rfl, hi, hj⟩
      rw [m_ref13_Lists_L1_eq]
      simp only [Int.toNat_natCast, fr_def, tt_def]
      by_cases hA : i < l.length
      · by_cases hB : tt l i ≤ cuts.getD c 0
        · refine ⟨.inl ((i + 1 : Nat) : Int), bB (v := true) (bT (dT (by omega)) (gX (by omega) (gK hA (congrArg some (dT hB))))) (bT rfl (gI (by omega) rfl)), ⟨i + 1, rfl, by omega, fun j hj' => ?_⟩, by simp only [Int.toNat_natCast]; omega⟩
          by_cases e : j = i
          · subst e; exact hB
          · exact hj j (by omega)
        · exact ⟨.inr (i : Int), bB (v := false) (bT (dT (by omega)) (gX (by omega) (gK hA (congrArg some (dF hB))))) (bF rfl rfl), i, rfl, hi, hj, fun _ => by omega⟩
      · exact ⟨.inr (i : Int), bB (v := false) (bF (dF (by omega)) rfl) (bF rfl rfl), i, rfl, hi, hj, fun h => absurd h hA⟩)
  obtain ⟨r, e, i, rfl, h1, h2, h3⟩ := h
  exact ⟨i, e, h1, h2, h3⟩
theorem p_ref13_Lists_L2 {l : List Sp} (hl : l.length ≤ 1000000) {cuts : List Int} {c i0 : Nat} (hi0 : i0 ≤ l.length) (h0 : ∀ j, j < i0 → tt l j ≤ cuts.getD c 0) :
    ∃ i : Nat, loop (m_ref13_Lists_L2 std l (c : Int) cuts) (i0 : Int) = some (i : Int) ∧ i ≤ l.length ∧ (∀ j, j < i → tt l j ≤ cuts.getD c 0) ∧ (i < l.length → cuts.getD c 0 < tt l i) := by
  have h := loop_is (B := m_ref13_Lists_L2 std l (c : Int) cuts) (y := (i0 : Int)) (fun y => ∃ i : Nat, y = (i : Int) ∧ i ≤ l.length ∧ ∀ j, j < i → tt l j ≤ cuts.getD c 0)
    (fun y => l.length - y.toNat) (fun r => ∃ i : Nat, r = (i : Int) ∧ i ≤ l.length ∧ (∀ j, j < i → tt l j ≤ cuts.getD c 0) ∧ (i < l.length → cuts.getD c 0 < tt l i)) ⟨i0, rfl, hi0, h0⟩ (by simp only [Int.toNat_natCast]; omega) (by
      rintro y ⟨i, rfl, hi, hj⟩
      rw [m_ref13_Lists_L2_eq]
      simp only [Int.toNat_natCast, fr_def, tt_def]
      by_cases hA : i < l.length
      · by_cases hB : tt l i ≤ cuts.getD c 0
        · refine ⟨.inl ((i + 1 : Nat) : Int), bB (v := true) (bT (dT (by omega)) (gX (by omega) (gK hA (congrArg some (dT hB))))) (bT rfl (gI (by omega) rfl)), ⟨i + 1, rfl, by omega, fun j hj' => ?_⟩, by simp only [Int.toNat_natCast]; omega⟩
          by_cases e : j = i
          · subst e; exact hB
          · exact hj j (by omega)
        · exact ⟨.inr (i : Int), bB (v := false) (bT (dT (by omega)) (gX (by omega) (gK hA (congrArg some (dF hB))))) (bF rfl rfl), i, rfl, hi, hj, fun _ => by omega⟩
      · exact ⟨.inr (i : Int), bB (v := false) (bF (dF (by omega)) rfl) (bF rfl rfl), i, rfl, hi, hj, fun h => absurd h hA⟩)
  obtain ⟨r, e, i, rfl, h1, h2, h3⟩ := h
  exact ⟨i, e, h1, h2, h3⟩
theorem at_mem {l : List Sp} (h : Can l) {i : Nat} {x : Int} (h1 : ∀ j, j < i → tt l j ≤ x) (h2 : i < l.length → x < tt l i) : memB l x = (decide (i < l.length) && decide (fr l i ≤ x)) := by
  rw [Bool.eq_iff_iff, memB_iff, mem_idx, Bool.and_eq_true, decide_eq_true_eq, decide_eq_true_eq]
  constructor
  · rintro ⟨j, hj, a, b⟩
    have hij : i ≤ j := by
      rcases Nat.lt_or_ge j i with h3 | h3
      · have := h1 j h3; omega
      · exact h3
    refine ⟨by omega, ?_⟩
    by_cases e : i = j
    · subst e; exact a
    · have := h.lt (show i < j by omega) hj
      have := h.ne' (show i < l.length by omega)
      omega
  · rintro ⟨a, b⟩
    exact ⟨i, a, b, h2 a⟩
def rlK (kind : Int) : Bool → Bool → Bool := if kind = 0 then rOr else if kind = 1 then rAnd else rSub
theorem rlK_ff (kind : Int) : rlK kind false false = false := by unfold rlK; split; rfl; split <;> rfl
theorem p_ref13_rule (kind : Int) (a b : Bool) : m_ref13_rule std kind a b = some (rlK kind a b) := by
  rw [m_ref13_rule_eq]
  unfold rlK
  by_cases h : kind = 0
  · rw [if_pos h]
    refine bT (eT h) ?_
    cases a <;> cases b <;> rfl
  · rw [if_neg h]
    refine bF (eF h) ?_
    by_cases h' : kind = 1
    · rw [if_pos h']
      refine bT (eT h') ?_
      cases a <;> cases b <;> rfl
    · rw [if_neg h']
      refine bF (eF h') ?_
      cases a <;> cases b <;> rfl
theorem addS_len (l : List Sp) (s : Sp) : (addS l s).length ≤ l.length + 1 := by
  rcases List.eq_nil_or_concat l with rfl | ⟨l', t, rfl⟩
  · rw [addS_nil]; simp
  · simp only [List.concat_eq_append]
    rw [addS_snoc]
    split <;> simp
theorem cutL_len (f : Int → Bool) (c : Nat → Int) (n : Nat) : (cutL f c n).length ≤ n := by
  induction n with
  | zero => simp [cutL]
  | succ n ih =>
    unfold cutL
    split
    · have := addS_len (cutL f c n) (c n, c (n + 1)); omega
    · omega
/-- one span more, as the reference adds it -/
theorem add_step {ε : Type} (acc : List Sp) (from' to : Int) (ha : acc.length ≤ 1099511627776) (K : List Sp → Option ε) :
    (Option.bind (bif (decide (0 < (((List.length acc) : Nat) : Int))) then
            grd (okI .i64 (((((List.length acc) : Nat) : Int) - 1))) <|
            grd (okIdx (((((List.length acc) : Nat) : Int) - 1)) ((List.length acc))) <|
            grd (okKin ((Int.toNat ((((List.length acc) : Nat) : Int) - 1))) ((List.length acc))) <|
            (some ((List.getD acc (Int.toNat ((((List.length acc) : Nat) : Int) - 1)) (0, 0)).2 == from'))
          else
            (some false) : Option ((Bool))) fun x155 =>
        Option.bind (
          bif x155 then
            grd (okI .i64 (((((List.length acc) : Nat) : Int) - 1))) <|
            grd (okIdx (((((List.length acc) : Nat) : Int) - 1)) ((List.length acc))) <|
            grd (okKin ((Int.toNat ((((List.length acc) : Nat) : Int) - 1))) ((List.length acc))) <|
            (some (List.set acc (Int.toNat ((((List.length acc) : Nat) : Int) - 1)) ((List.getD acc (Int.toNat ((((List.length acc) : Nat) : Int) - 1)) (0, 0)).1, to)))
          else
            grd (okRoom ((List.length acc))) <|
            grd (okRoom ((List.length [(from', to)]))) <|
            (some (acc ++ [(from', to)])) : Option ((List (Int × Int)))) K) = K (addS acc (from', to)) := by
  rcases List.eq_nil_or_concat acc with rfl | ⟨l', t, rfl⟩
  · exact bB (v := false) (bF (dF (by simp)) rfl) (bB (v := [(from', to)]) (bF rfl (gR (by simp) (gR (by simp) rfl))) rfl)
  · simp only [List.concat_eq_append] at *
    have hn : (l' ++ [t]).length = l'.length + 1 := by simp
    have e1 : Int.toNat ((((l' ++ [t]).length : Nat) : Int) - 1) = l'.length := by rw [hn]; omega
    have e2 : (l' ++ [t]).getD l'.length (0, 0) = t := by simp
    simp only [e1, e2]
    rw [addS_snoc]
    refine bB (v := decide (t.2 = from')) (bT (dT (by omega)) (gI (by omega) (gX (by omega) (gK (by omega) (congrArg some ?_))))) ?_
    · by_cases h : t.2 = from'
      · rw [dT h]; exact eT h
      · rw [dF h]; exact eF h
    by_cases h : t.2 = from'
    · rw [if_pos h, dT h]
      refine bB (v := l' ++ [(t.1, to)]) (bT rfl (gI (by omega) (gX (by omega) (gK (by omega) (congrArg some ?_))))) rfl
      rw [List.set_append_right _ _ (Nat.le_refl _)]
      simp
    · rw [if_neg h, dF h]
      exact bB (v := l' ++ [t] ++ [(from', to)]) (bF rfl (gR (by omega) (gR (by simp) rfl))) rfl
theorem up_get {l : List Int} (h : l.Pairwise (· ≤ ·)) {i j : Nat} (hij : i ≤ j) (hj : j < l.length) : l.getD i 0 ≤ l.getD j 0 := by
  have e1 : l.getD i 0 = l[i] := by simp [List.getD_eq_getElem?_getD, show i < l.length by omega]
  have e2 : l.getD j 0 = l[j] := by simp [List.getD_eq_getElem?_getD, hj]
  rw [e1, e2]
  by_cases e : i = j
  · subst e; exact Int.le_refl _
  · exact List.pairwise_iff_getElem.1 h i j (by omega) hj (by omega)
theorem p_ref13_Lists {kind : Int} {a b : List Sp} (ha : Can a) (hb : Can b) (hla : a.length ≤ 1000000) (hlb : b.length ≤ 1000000) :
    ∃ r, m_ref13_Lists std kind a b = some r ∧ Can r ∧ (∀ x, Mem r x ↔ R2 (rlK kind) a b x = true) ∧ r.length ≤ 2 * a.length + 2 * b.length := by
  obtain ⟨cuts, e, hm⟩ := p_ref13_ends ha hb hla hlb
  have hlen := hm.len
  have f0 : ∀ x, R2 (rlK kind) a b x = rlK kind (memB a x) (memB b x) := fun x => rfl
  obtain ⟨f, hf⟩ : ∃ f, R2 (rlK kind) a b = f := ⟨_, rfl⟩
  obtain ⟨c, hc⟩ : ∃ c : Nat → Int, c = fun i => cuts.getD i 0 := ⟨_, rfl⟩
  have hconst : ∀ i, i < cuts.length - 1 → ∀ x, c i ≤ x → x < c (i + 1) → f x = f (c i) := by
    intro i hi x h1 h2
    simp only [hc] at h1 h2 ⊢
    have hno : ∀ v, v ∈ cuts → ¬ (cuts.getD i 0 < v ∧ v ≤ x) := by
      rintro v hv ⟨h3, h4⟩
      obtain ⟨j, hj, rfl⟩ := List.getElem_of_mem hv
      have ej : cuts.getD j 0 = cuts[j] := by simp [List.getD_eq_getElem?_getD, hj]
      rw [← ej] at h3 h4
      rcases Nat.lt_or_ge i j with h5 | h5
      · have := up_get hm.up (show i + 1 ≤ j by omega) hj
        omega
      · have := up_get hm.up h5 (by omega)
        omega
    rw [← hf, f0, f0, memB_const (fun n hn => hno _ (hm.ia n hn)) h1, memB_const (fun n hn => hno _ (hm.ib n hn)) h1]
  have hup : ∀ i, i < cuts.length - 1 → c i ≤ c (i + 1) := fun i hi => by rw [hc]; exact up_get hm.up (by omega) (by omega)
  have hloop := loop_is (B := m_ref13_Lists_L3 std a b kind cuts) (y := (0, 0, 0, ([] : List Sp))) (fun y => ∃ i k n : Nat, y.1 = (i : Int) ∧ y.2.1 = (k : Int) ∧ y.2.2.1 = (n : Int) ∧ i ≤ a.length ∧ k ≤ b.length ∧ n ≤ cuts.length - 1 ∧
      (n < cuts.length → (∀ j, j < i → tt a j ≤ c n) ∧ ∀ j, j < k → tt b j ≤ c n) ∧ y.2.2.2 = cutL f c n)
    (fun y => cuts.length - y.2.2.1.toNat) (fun r => r = cutL f c (cuts.length - 1)) ⟨0, 0, 0, rfl, rfl, rfl, by omega, by omega, by omega, fun _ => ⟨fun j hj => by omega, fun j hj => by omega⟩, rfl⟩ (by show _ - _ < _; omega) (by
      rintro ⟨x, z, n', out⟩ ⟨i, k, n, h1, h2, h3, hi, hk, hn, hjk, ho⟩
      change x = (i : Int) at h1
      change z = (k : Int) at h2
      change n' = (n : Int) at h3
      change out = cutL f c n at ho
      subst h1; subst h2; subst h3
      have hol := cutL_len f c n
      rw [← ho] at hol
      rw [m_ref13_Lists_L3_eq]
      by_cases hlt : n + 1 < cuts.length
      · obtain ⟨hj1, hj2⟩ := hjk (by omega)
        have hle := hup n (by omega)
        have en : ((n : Int) + 1) = ((n + 1 : Nat) : Int) := by omega
        have ecn : cuts.getD n 0 = c n := by rw [hc]
        have ecn1 : cuts.getD (n + 1) 0 = c (n + 1) := by rw [hc]
        rw [en]
        simp only [Int.toNat_natCast]
        simp only [ecn, ecn1]
        have hnext : ∀ i' k' : Nat, i' ≤ a.length → k' ≤ b.length → (∀ j, j < i' → tt a j ≤ c n) → (∀ j, j < k' → tt b j ≤ c n) → ∀ out', out' = cutL f c (n + 1) →
            (∃ i k m : Nat, (i' : Int) = (i : Int) ∧ (k' : Int) = (k : Int) ∧ ((n + 1 : Nat) : Int) = (m : Int) ∧ i ≤ a.length ∧ k ≤ b.length ∧ m ≤ cuts.length - 1 ∧ (m < cuts.length → (∀ j, j < i → tt a j ≤ c m) ∧ ∀ j, j < k → tt b j ≤ c m) ∧ out' = cutL f c m) ∧ cuts.length - ((n + 1 : Nat) : Int).toNat < cuts.length - (n : Int).toNat :=
          fun i' k' a1 a2 a3 a4 out' a5 => ⟨⟨i', k', n + 1, rfl, rfl, rfl, a1, a2, by omega, fun _ => ⟨fun j hj => by have := a3 j hj; omega, fun j hj => by have := a4 j hj; omega⟩, a5⟩, by simp only [Int.toNat_natCast]; omega⟩
        by_cases heq : c n = c (n + 1)
        · have hcut : cutL f c (n + 1) = cutL f c n := by
            rw [cutL, if_neg (by omega)]
          refine ⟨.inl ((i : Int), (k : Int), ((n + 1 : Nat) : Int), out), ?_, hnext i k hi hk hj1 hj2 out (by rw [hcut]; exact ho)⟩
          exact gI (by omega) (bT (dT (by omega)) (gX (by omega) (gK (by omega) (gX (by omega) (gK (by omega) (bT (eT heq) rfl))))))
        · obtain ⟨i', ei, i1, i2, i3⟩ := p_ref13_Lists_L1 (l := a) hla (cuts := cuts) (c := n) hi (by rw [ecn]; exact hj1)
          obtain ⟨k', ek, k1, k2, k3⟩ := p_ref13_Lists_L2 (l := b) hlb (cuts := cuts) (c := n) hk (by rw [ecn]; exact hj2)
          rw [ecn] at i2 i3 k2 k3
          have ma := at_mem ha i2 i3
          have mb := at_mem hb k2 k3
          have hfx : f (c n) = rlK kind (decide (i' < a.length) && decide (fr a i' ≤ c n)) (decide (k' < b.length) && decide (fr b k' ≤ c n)) := by rw [← hf, f0, ma, mb]
          have hrule : (Option.bind (bif (decide ((i' : Int) < (((List.length a) : Nat) : Int))) then
              bif (decide ((k' : Int) < (((List.length b) : Nat) : Int))) then
                grd (okIdx (i' : Int) ((List.length a))) <| grd (okKin i' ((List.length a))) <| grd (okIdx (k' : Int) ((List.length b))) <| grd (okKin k' ((List.length b))) <|
                Option.bind (m_ref13_rule std kind ((decide ((List.getD a i' (0, 0)).1 ≤ c n))) ((decide ((List.getD b k' (0, 0)).1 ≤ c n)))) fun b32 => (some (!b32))
              else
                grd (okIdx (i' : Int) ((List.length a))) <| grd (okKin i' ((List.length a))) <|
                Option.bind (m_ref13_rule std kind ((decide ((List.getD a i' (0, 0)).1 ≤ c n))) false) fun b33 => (some (!b33))
            else
              bif (decide ((k' : Int) < (((List.length b) : Nat) : Int))) then
                grd (okIdx (k' : Int) ((List.length b))) <| grd (okKin k' ((List.length b))) <|
                Option.bind (m_ref13_rule std kind false ((decide ((List.getD b k' (0, 0)).1 ≤ c n)))) fun b34 => (some (!b34))
              else
                Option.bind (m_ref13_rule std kind false false) fun b35 => (some (!b35)) : Option ((Bool))) some) = some (!f (c n)) := by
            rw [hfx]
            refine bB ?_ rfl
            by_cases u : i' < a.length
            · rw [dT u]
              refine bT (dT (by omega)) ?_
              by_cases v : k' < b.length
              · rw [dT v]
                refine bT (dT (by omega)) (gX (by omega) (gK u (gX (by omega) (gK v (bB (p_ref13_rule _ _ _) ?_)))))
                rw [Bool.true_and, Bool.true_and]; rfl
              · rw [dF v]
                refine bF (dF (by omega)) (gX (by omega) (gK u (bB (p_ref13_rule _ _ _) ?_)))
                rw [Bool.true_and, Bool.false_and]; rfl
            · rw [dF u]
              refine bF (dF (by omega)) ?_
              by_cases v : k' < b.length
              · rw [dT v]
                refine bT (dT (by omega)) (gX (by omega) (gK v (bB (p_ref13_rule _ _ _) ?_)))
                rw [Bool.true_and, Bool.false_and]; rfl
              · rw [dF v]
                refine bF (dF (by omega)) (bB (p_ref13_rule _ _ _) ?_)
                rw [Bool.false_and, Bool.false_and]
          rw [Option.bind_fun_some] at hrule
          refine ⟨.inl ((i' : Int), (k' : Int), ((n + 1 : Nat) : Int), cutL f c (n + 1)), ?_, hnext i' k' i1 k1 i2 k2 _ rfl⟩
          refine gI (by omega) (bT (dT (by omega)) (gX (by omega) (gK (by omega) (gX (by omega) (gK (by omega) (bF (eF heq) (bB ei (bB ek (bB hrule ?_)))))))))
          cases hfv : f (c n) with
          | false =>
            have hcut : cutL f c (n + 1) = cutL f c n := by
              rw [cutL, if_neg (by rw [hfv]; simp)]
            rw [hcut, ← ho]; rfl
          | true =>
            have hcut : cutL f c (n + 1) = addS (cutL f c n) (c n, c (n + 1)) := by
              rw [cutL, if_pos ⟨hfv, by omega⟩]
            rw [hcut, ← ho]
            exact bF rfl (add_step out (c n) (c (n + 1)) (by omega) (fun l99 => some (Sum.inl ((i' : Int), (k' : Int), ((n + 1 : Nat) : Int), l99))))
      · refine ⟨.inr out, gI (by omega) (bF (dF (by omega)) rfl), ?_⟩
        rw [ho]
        congr 1
        omega)
  obtain ⟨r, e2, rfl⟩ := hloop
  obtain ⟨g1, g2, g3⟩ := cutL_ok (f := f) (c := c) (n := cuts.length - 1) hup hconst
  refine ⟨_, ?_, g1, fun x => ?_, ?_⟩
  · rw [m_ref13_Lists_eq, e]
    exact bB rfl (bB e2 rfl)
  · rw [g3, ← hf]
    refine ⟨fun h => h.2.2, fun h => ?_⟩
    have hin : ∀ {l : List Sp}, (∀ n, n < 2 * l.length → endL l n ∈ cuts) → memB l x = true → c 0 ≤ x ∧ x < c (cuts.length - 1) := by
      intro l hl hx
      obtain ⟨j, hj, u, v⟩ := mem_idx.1 (memB_iff.1 hx)
      have h1 := hl (2 * j) (by omega)
      have h2 := hl (2 * j + 1) (by omega)
      rw [endL_even] at h1
      rw [endL_odd] at h2
      obtain ⟨p, hp, ep⟩ := List.getElem_of_mem h1
      obtain ⟨q, hq, eq⟩ := List.getElem_of_mem h2
      have e3 : cuts.getD p 0 = fr l j := by rw [← ep]; simp [List.getD_eq_getElem?_getD, hp]
      have e4 : cuts.getD q 0 = tt l j := by rw [← eq]; simp [List.getD_eq_getElem?_getD, hq]
      have u1 := up_get hm.up (Nat.zero_le p) hp
      have u2 := up_get hm.up (show q ≤ cuts.length - 1 by omega) (by omega)
      rw [hc]
      simp only []
      omega
    have hor : memB a x = true ∨ memB b x = true := by
      cases ha' : memB a x with
      | true => exact .inl rfl
      | false =>
        cases hb' : memB b x with
        | true => exact .inr rfl
        | false => rw [f0, ha', hb', rlK_ff] at h; cases h
    rcases hor with hx | hx
    · have := hin hm.ia hx
      exact ⟨this.1, this.2, h⟩
    · have := hin hm.ib hx
      exact ⟨this.1, this.2, h⟩
  · have := cutL_len f c (cuts.length - 1)
    omega
end
section
noncomputable def invB (P : Int) (l : List Sp) (q : Int) : Bool := @decide (InvQ P l q) (Classical.propDecidable _)
theorem invB_t {P : Int} {l : List Sp} {q : Int} (h : InvQ P l q) : invB P l q = true := by unfold invB; exact @decide_eq_true _ (Classical.propDecidable _) h
theorem invB_f {P : Int} {l : List Sp} {q : Int} (h : ¬ InvQ P l q) : invB P l q = false := by unfold invB; exact @decide_eq_false _ (Classical.propDecidable _) h
theorem invB_iff {P : Int} {l : List Sp} {q : Int} : invB P l q = true ↔ InvQ P l q := by
  constructor
  · intro h
    exact Classical.byContradiction fun h' => by rw [invB_f h'] at h; cases h
  · exact invB_t

/-! moved -/
def lowF (P m : Int) (s : Sp) : Option Sp := if P < s.2 + m then some (ma (s.1 + m) P - P, s.2 + m - P) else none
def highF (P m : Int) (s : Sp) : Option Sp := if s.1 + m < P then some (s.1 + m, mi (s.2 + m) P) else none
theorem ma_ge (a b : Int) : a ≤ ma a b ∧ b ≤ ma a b ∧ (ma a b = a ∨ ma a b = b) := by unfold ma; split <;> omega
theorem low_can {P m : Int} {l : List Sp} (h : Can l) : Can (l.filterMap (lowF P m)) ∧ ∀ x, Mem (l.filterMap (lowF P m)) x ↔ 0 ≤ x ∧ Mem l (x + P - m) := by
  refine ⟨⟨fun t ht => ?_, List.pairwise_filterMap.2 (h.pw.imp fun {s t} hst a ha b hb => ?_)⟩, fun x => ?_⟩
  · obtain ⟨s, hs, e⟩ := List.mem_filterMap.1 ht
    unfold lowF at e
    split at e
    · injection e with e
      subst e
      have := h.ne s hs
      have := ma_ge (s.1 + m) P
      show ma _ _ - P < s.2 + m - P
      omega
    · cases e
  · unfold lowF at ha hb
    split at ha
    · split at hb
      · injection ha with ha
        injection hb with hb
        subst ha; subst hb
        have := ma_ge (t.1 + m) P
        show s.2 + m - P < ma _ _ - P
        omega
      · cases hb
    · cases ha
  · constructor
    · rintro ⟨t, ht, a, b⟩
      obtain ⟨s, hs, e⟩ := List.mem_filterMap.1 ht
      unfold lowF at e
      split at e
      · injection e with e
        subst e
        have := ma_ge (s.1 + m) P
        change ma (s.1 + m) P - P ≤ x at a
        change x < s.2 + m - P at b
        exact ⟨by omega, s, hs, by omega, by omega⟩
      · cases e
    · rintro ⟨h0, s, hs, a, b⟩
      have := ma_ge (s.1 + m) P
      exact ⟨_, List.mem_filterMap.2 ⟨s, hs, if_pos (by omega)⟩, by show ma _ _ - P ≤ x; omega, by show x < s.2 + m - P; omega⟩
theorem high_can {P m : Int} {l : List Sp} (h : Can l) : Can (l.filterMap (highF P m)) ∧ ∀ x, Mem (l.filterMap (highF P m)) x ↔ x < P ∧ Mem l (x - m) := by
  refine ⟨⟨fun t ht => ?_, List.pairwise_filterMap.2 (h.pw.imp fun {s t} hst a ha b hb => ?_)⟩, fun x => ?_⟩
  · obtain ⟨s, hs, e⟩ := List.mem_filterMap.1 ht
    unfold highF at e
    split at e
    · injection e with e
      subst e
      have := h.ne s hs
      have := mi_le (s.2 + m) P
      show s.1 + m < mi _ _
      omega
    · cases e
  · unfold highF at ha hb
    split at ha
    · split at hb
      · injection ha with ha
        injection hb with hb
        subst ha; subst hb
        have := mi_le (s.2 + m) P
        show mi _ _ < t.1 + m
        omega
      · cases hb
    · cases ha
  · constructor
    · rintro ⟨t, ht, a, b⟩
      obtain ⟨s, hs, e⟩ := List.mem_filterMap.1 ht
      unfold highF at e
      split at e
      · injection e with e
        subst e
        have := mi_le (s.2 + m) P
        change s.1 + m ≤ x at a
        change x < mi (s.2 + m) P at b
        exact ⟨by omega, s, hs, by omega, by omega⟩
      · cases e
    · rintro ⟨h0, s, hs, a, b⟩
      have := mi_le (s.2 + m) P
      exact ⟨_, List.mem_filterMap.2 ⟨s, hs, if_pos (by omega)⟩, by show s.1 + m ≤ x; omega, by show x < mi _ _; omega⟩
theorem filterMap_len {α β : Type} (f : α → Option β) (l : List α) : (l.filterMap f).length ≤ l.length := List.length_filterMap_le f l
theorem p_rot_loop {P m : Int} {l : List Sp} (hP2 : P ≤ 12622780800) (hl : l.length ≤ 1000000) (hm1 : 0 ≤ m) (hm2 : m ≤ 12622780800) (h : Std P l) :
    loop (m_ref13_rotated_L1 std l m P) (0, ([] : List Sp), ([] : List Sp)) = some (l.filterMap (lowF P m), l.filterMap (highF P m)) := by
  have hP := h.p1
  have hat : ∀ i, i < l.length → 0 ≤ fr l i ∧ fr l i < tt l i ∧ tt l i ≤ P := fun i hi => by
    have h1 := h.bd l[i] (List.getElem_mem hi)
    have h2 := h.can.ne' hi
    rw [list_fr l hi] at h1
    exact ⟨h1.1, h2, h1.2⟩
  have hh := loop_up (B := m_ref13_rotated_L1 std l m P) (n := l.length) (fun i => ((l.take i).filterMap (lowF P m), (l.take i).filterMap (highF P m))) (e := (l.filterMap (lowF P m), l.filterMap (highF P m))) (by omega) (fun i hi => by
    have h1 := hat i hi
    have g1 := filterMap_len (lowF P m) (l.take i)
    have g2 := filterMap_len (highF P m) (l.take i)
    rw [List.length_take] at g1 g2
    rw [take_succ' l hi, List.filterMap_append, List.filterMap_append, m_ref13_rotated_L1_eq]
    generalize (l.take i).filterMap (lowF P m) = low at *
    generalize (l.take i).filterMap (highF P m) = high at *
    simp only [Int.toNat_natCast, fr_def, tt_def]
    have hma := ma_ge (fr l i + m) P
    refine bT (dT (by omega)) (gX (by omega) (gK hi (gI (by omega) (gI (by omega) (bB (v := high ++ [(fr l i, tt l i)].filterMap (highF P m)) ?_ (bB (v := low ++ [(fr l i, tt l i)].filterMap (lowF P m)) ?_ (gI (by omega) rfl)))))))
    · by_cases hc : fr l i + m < P
      · refine bT (dT hc) (gR (by omega) (gR (by simp) ?_))
        simp [highF, hc]
      · refine bF (dF hc) ?_
        simp [highF, hc]
    · by_cases hc : P < tt l i + m
      · refine bT (dT hc) (gI (by omega) (gI (by omega) (gR (by omega) (gR (by simp) ?_))))
        simp [lowF, hc]
      · refine bF (dF hc) ?_
        simp [lowF, hc]) (by
    rw [m_ref13_rotated_L1_eq]
    refine bF (dF (by omega)) ?_
    simp only [List.take_length])
  exact hh
theorem emod_shift {P n x : Int} (hP : 1 ≤ P) (h1 : 0 ≤ x) (h2 : x < P) : (x - n) % P = if n % P ≤ x then x - n % P else x - n % P + P := by
  have a1 := Int.emod_nonneg n (show P ≠ 0 by omega)
  have a2 := Int.emod_lt_of_pos n (show 0 < P by omega)
  have a3 := Int.emod_add_mul_ediv n P
  obtain ⟨m, hm⟩ : ∃ m, n % P = m := ⟨_, rfl⟩
  rw [hm] at a1 a2 a3 ⊢
  split
  · have e : x - n = (x - m) + P * (-(n / P)) := by rw [Int.mul_neg]; omega
    rw [e, Int.add_mul_emod_self_left, Int.emod_eq_of_lt (by omega) (by omega)]
  · have e : x - n = (x - m + P) + P * (-(n / P) - 1) := by rw [Int.mul_sub, Int.mul_neg]; omega
    rw [e, Int.add_mul_emod_self_left, Int.emod_eq_of_lt (by omega) (by omega)]
theorem p_ref13_rotated {P n : Int} {l : List Sp} (hP2 : P ≤ 12622780800) (hl : l.length ≤ 400000) (hn1 : -9223372036854775808 ≤ n) (hn2 : n ≤ 9223372036854775807) (h : Std P l) :
    (n % P = 0 ∧ m_ref13_rotated std P n l = some (.inl ())) ∨ ∃ r, n % P ≠ 0 ∧ m_ref13_rotated std P n l = some (.inr r) ∧ Std P r ∧ (∀ x, Mem r x ↔ 0 ≤ x ∧ x < P ∧ PS P l (x - n)) ∧ r.length ≤ 4 * l.length := by
  have hP := h.p1
  rw [m_ref13_rotated_eq, p_ref01_Mod _ _ hn1 hn2 hP (by omega), Option.bind_some]
  by_cases h0 : n % P = 0
  · exact .inl ⟨h0, bT (eT h0) rfl⟩
  · refine .inr ?_
    have a1 := Int.emod_nonneg n (show P ≠ 0 by omega)
    have a2 := Int.emod_lt_of_pos n (show 0 < P by omega)
    obtain ⟨c1, m1⟩ := low_can (P := P) (m := n % P) h.can
    obtain ⟨c2, m2⟩ := high_can (P := P) (m := n % P) h.can
    have g1 := filterMap_len (lowF P (n % P)) l
    have g2 := filterMap_len (highF P (n % P)) l
    obtain ⟨r, e, cr, hm, hlen⟩ := p_ref13_Lists (kind := 0) c1 c2 (by omega) (by omega)
    have hx : ∀ x, Mem r x ↔ 0 ≤ x ∧ x < P ∧ PS P l (x - n) := fun x => by
      have hor : R2 (rlK 0) (l.filterMap (lowF P (n % P))) (l.filterMap (highF P (n % P))) x = true ↔ Mem (l.filterMap (lowF P (n % P))) x ∨ Mem (l.filterMap (highF P (n % P))) x := by
        show (memB _ x || memB _ x) = true ↔ _
        rw [Bool.or_eq_true, memB_iff, memB_iff]
      rw [hm, hor, m1, m2]
      unfold PS
      constructor
      · rintro (⟨u, v⟩ | ⟨u, v⟩)
        · have w := h.mem v
          refine ⟨u, by omega, ?_⟩
          rw [emod_shift hP u (by omega), if_neg (by omega), show x - n % P + P = x + P - n % P by omega]; exact v
        · have w := h.mem v
          refine ⟨by omega, u, ?_⟩
          rw [emod_shift hP (by omega) u, if_pos (by omega)]; exact v
      · rintro ⟨u, v, w⟩
        rw [emod_shift hP u v] at w
        split at w
        · exact .inr ⟨v, w⟩
        · exact .inl ⟨u, by rw [show x + P - n % P = x - n % P + P by omega]; exact w⟩
    refine ⟨r, h0, bF (eF h0) (bB (p_rot_loop hP2 (by omega) a1 (by omega) h) (bB e rfl)), std_of_mem hP cr fun x hx' => ⟨((hx x).1 hx').1, ((hx x).1 hx').2.1⟩, hx, by omega⟩
/-- is the set the same, moved by q? -/
theorem p_rot_same {P q : Int} {l : List Sp} (hP2 : P ≤ 12622780800) (hl : l.length ≤ 200000) (hq1 : 1 ≤ q) (hq2 : q ≤ P) (h : Std P l) :
    (Option.bind (m_ref13_rotated std P q l) fun e => match e with
        | .inl _ => Option.bind (m_ref13_Same_2 std l) fun b36 => (some b36)
        | .inr (l116) => Option.bind (m_ref13_Same std l116 l) fun b37 => (some b37)) = some (invB P l q) := by
  rcases p_ref13_rotated (n := q) hP2 (by omega) (by omega) (by omega) h with ⟨h0, e⟩ | ⟨r, h0, e, hs, hm, hlen⟩
  · have hqP : q = P := by
      rcases Int.lt_or_le q P with h1 | h1
      · rw [Int.emod_eq_of_lt (by omega) h1] at h0; omega
      · omega
    subst hqP
    rw [e, invB_t (InvQ.self _ _)]
    exact bB rfl (bB (p_ref13_Same_2 l (by omega)) rfl)
  · rw [e]
    refine bB rfl (bB (p_ref13_Same r l (by omega)) (congrArg some ?_))
    have hper : ∀ x, PS P l (x - q) ↔ PS P l (x % P - q) := fun x => by
      have h3 := Int.emod_add_mul_ediv x P
      have e1 : x - q = (x % P - q) + P * (x / P) := by omega
      rw [e1, PS_per]
    by_cases hi : InvQ P l q
    · rw [invB_t hi]
      refine dT (can_unique hs.can h.can fun x => ?_)
      rw [hm, h.mem_PS]
      have := hi (x - q)
      rw [Int.sub_add_cancel] at this
      rw [this]
    · rw [invB_f hi]
      refine dF fun he => hi fun x => ?_
      have key : ∀ x, PS P l (x - q) ↔ PS P l x := fun x => by
        have p1 := h.p1
        have m1 := Int.emod_nonneg x (show P ≠ 0 by omega)
        have m2 := Int.emod_lt_of_pos x (show 0 < P by omega)
        have h1 := hm (x % P)
        rw [he, h.mem_PS] at h1
        have h2 : PS P l x ↔ PS P l (x % P) := by
          have h3 := Int.emod_add_mul_ediv x P
          have := PS_per (P := P) (l := l) (x % P) (x / P)
          rw [h3] at this
          exact this
        rw [hper, h2]
        constructor
        · intro u; exact (h1.2 ⟨m1, m2, u⟩).2.2
        · intro u; exact (h1.1 ⟨m1, m2, u⟩).2.2
      have := key (x + q)
      rw [Int.add_sub_cancel] at this
      exact this.symm

/-! the changes -/
def chS (P : Int) (l : List Sp) (s : Sp) : List Int := (if 0 < s.1 ∨ tt l (l.length - 1) < P then [s.1] else []) ++ if s.2 < P then [s.2] else if 0 < fr l 0 then [0] else []
theorem chS_len (P : Int) (l : List Sp) (s : Sp) : (chS P l s).length ≤ 2 := by
  unfold chS
  rw [List.length_append]
  split <;> split <;> try split
  all_goals simp
theorem chL_len (P : Int) (l l' : List Sp) : (l'.flatMap (chS P l)).length ≤ 2 * l'.length := by
  induction l' with
  | nil => simp
  | cons s l' ih =>
    rw [List.flatMap_cons, List.length_append, List.length_cons]
    have := chS_len P l s
    omega
theorem p_chg_loop {P : Int} {l : List Sp} (hl : l.length ≤ 1000000) : loop (m_periodic_repeats_L1 std l P) (0, ([] : List Int)) = some (l.flatMap (chS P l)) := by
  have hh := loop_up (B := m_periodic_repeats_L1 std l P) (n := l.length) (fun i => (l.take i).flatMap (chS P l)) (e := l.flatMap (chS P l)) (by omega) (fun i hi => by
    have g1 := chL_len P l (l.take i)
    rw [List.length_take] at g1
    rw [take_succ' l hi, List.flatMap_append, m_periodic_repeats_L1_eq]
    generalize (l.take i).flatMap (chS P l) = acc at *
    have e0 : Int.toNat (((l.length : Nat) : Int) - 1) = l.length - 1 := by omega
    have ez : Int.toNat 0 = 0 := rfl
    simp only [Int.toNat_natCast, fr_def, tt_def, e0, ez]
    have e : [(fr l i, tt l i)].flatMap (chS P l) = chS P l (fr l i, tt l i) := by simp
    rw [e]
    unfold chS
    simp only []
    refine bT (dT (by omega)) (gX (by omega) (gK hi (bB (v := decide (0 < fr l i ∨ tt l (l.length - 1) < P)) ?_ ?_)))
    · by_cases h : 0 < fr l i
      · rw [dT (show 0 < fr l i ∨ tt l (l.length - 1) < P from .inl h)]
        exact bT (dT h) rfl
      · refine bF (dF h) (gI (by omega) (gX (by omega) (gK (by omega) (congrArg some ?_))))
        rw [decide_eq_decide]
        exact ⟨.inr, fun h' => h'.resolve_left h⟩
    · refine bB (v := acc ++ if 0 < fr l i ∨ tt l (l.length - 1) < P then [fr l i] else []) ?_ ?_
      · by_cases h : 0 < fr l i ∨ tt l (l.length - 1) < P
        · rw [dT h, if_pos h]
          exact bT rfl (gR (by omega) (gR (by simp) rfl))
        · rw [dF h, if_neg h, List.append_nil]
          exact bF rfl rfl
      · have g2 : (acc ++ if 0 < fr l i ∨ tt l (l.length - 1) < P then [fr l i] else []).length ≤ acc.length + 1 := by
          rw [List.length_append]; split <;> simp
        rw [← List.append_assoc]
        generalize (acc ++ if 0 < fr l i ∨ tt l (l.length - 1) < P then [fr l i] else []) = acc2 at *
        refine bB (v := acc2 ++ if tt l i < P then [tt l i] else if 0 < fr l 0 then [0] else []) ?_ (gI (by omega) rfl)
        by_cases h : tt l i < P
        · rw [if_pos h]
          exact bT (dT h) (gR (by omega) (gR (by simp) rfl))
        · rw [if_neg h]
          refine bF (dF h) (gX (by omega) (gK (by omega) ?_))
          by_cases h' : 0 < fr l 0
          · rw [if_pos h']
            exact bB (bT (dT h') (gR (by omega) (gR (by simp) rfl))) rfl
          · rw [if_neg h', List.append_nil]
            exact bB (bF (dF h') rfl) rfl) (by
    rw [m_periodic_repeats_L1_eq]
    refine bF (dF (by omega)) ?_
    simp only [List.take_length])
  exact hh
theorem mem_chS {P : Int} {l : List Sp} {s : Sp} {c : Int} : c ∈ chS P l s ↔ (c = s.1 ∧ (0 < s.1 ∨ tt l (l.length - 1) < P)) ∨ (c = s.2 ∧ s.2 < P) ∨ (c = 0 ∧ ¬ s.2 < P ∧ 0 < fr l 0) := by
  unfold chS
  rw [List.mem_append]
  refine or_congr ?_ ?_
  · split
    · rename_i h; simp [h]
    · rename_i h; simp [h]
  · split
    · rename_i h; simp [h]
    · rename_i h
      split
      · rename_i h'; simp [h, h']
      · rename_i h'; simp [h, h']
/-- where a list changes -/
theorem end_chg {l : List Sp} (h : Can l) (c : Int) : ¬ (Mem l (c - 1) ↔ Mem l c) ↔ ∃ j, j < l.length ∧ (fr l j = c ∨ tt l j = c) := by
  constructor
  · intro hn
    by_cases h1 : Mem l c
    · obtain ⟨j, hj, a, b⟩ := mem_idx.1 h1
      refine ⟨j, hj, .inl ?_⟩
      by_cases e : fr l j = c
      · exact e
      · exact absurd ⟨fun _ => h1, fun _ => mem_idx.2 ⟨j, hj, by omega, by omega⟩⟩ hn
    · by_cases h2 : Mem l (c - 1)
      · obtain ⟨j, hj, a, b⟩ := mem_idx.1 h2
        refine ⟨j, hj, .inr ?_⟩
        by_cases e : tt l j = c
        · exact e
        · exact absurd (mem_idx.2 ⟨j, hj, by omega, by omega⟩) h1
      · exact absurd ⟨fun h => absurd h h2, fun h => absurd h h1⟩ hn
  · rintro ⟨j, hj, e | e⟩ hiff
    · have hne := h.ne' hj
      obtain ⟨k, hk, a, b⟩ := mem_idx.1 (hiff.2 (mem_idx.2 ⟨j, hj, by omega, by omega⟩))
      rcases Nat.lt_trichotomy k j with u | u | u
      · have := h.lt u hj; omega
      · subst u; omega
      · have := h.lt u hk; omega
    · have hne := h.ne' hj
      obtain ⟨k, hk, a, b⟩ := mem_idx.1 (hiff.1 (mem_idx.2 ⟨j, hj, by omega, by omega⟩))
      rcases Nat.lt_trichotomy k j with u | u | u
      · have := h.lt u hj; have := h.ne' hk; omega
      · subst u; omega
      · have := h.lt u hk; omega
theorem Std.at {P : Int} {l : List Sp} (h : Std P l) {j : Nat} (hj : j < l.length) : 0 ≤ fr l j ∧ fr l j < tt l j ∧ tt l j ≤ P := by
  have h1 := h.bd l[j] (List.getElem_mem hj)
  have h2 := h.can.ne' hj
  rw [list_fr l hj] at h1
  exact ⟨h1.1, h2, h1.2⟩
theorem Can.mono {l : List Sp} (h : Can l) {j k : Nat} (hjk : j ≤ k) (hk : k < l.length) : fr l j ≤ fr l k ∧ tt l j ≤ tt l k := by
  by_cases e : j = k
  · subst e; exact ⟨Int.le_refl _, Int.le_refl _⟩
  · have := h.lt (show j < k by omega) hk
    have := h.ne' hk
    have := h.ne' (show j < l.length by omega)
    omega
theorem mem_ch {P : Int} {l : List Sp} {c : Int} : c ∈ l.flatMap (chS P l) ↔ ∃ j, j < l.length ∧ ((c = fr l j ∧ (0 < fr l j ∨ tt l (l.length - 1) < P)) ∨ (c = tt l j ∧ tt l j < P) ∨ (c = 0 ∧ ¬ tt l j < P ∧ 0 < fr l 0)) := by
  rw [List.mem_flatMap]
  constructor
  · rintro ⟨s, hs, h⟩
    obtain ⟨j, hj, rfl⟩ := List.getElem_of_mem hs
    rw [list_fr l hj] at h
    exact ⟨j, hj, mem_chS.1 h⟩
  · rintro ⟨j, hj, h⟩
    refine ⟨l[j], List.getElem_mem hj, ?_⟩
    rw [list_fr l hj]
    exact mem_chS.2 h
theorem chg_iff {P : Int} {l : List Sp} (h : Std P l) {c : Int} : c ∈ l.flatMap (chS P l) ↔ 0 ≤ c ∧ c < P ∧ Chg P l c := by
  have p1 := h.p1
  rw [mem_ch]
  unfold Chg PS
  by_cases hc : 0 < c ∧ c < P
  · rw [Int.emod_eq_of_lt (show 0 ≤ c - 1 by omega) (by omega), Int.emod_eq_of_lt (show 0 ≤ c by omega) hc.2, end_chg h.can]
    constructor
    · rintro ⟨j, hj, u | u | u⟩
      · exact ⟨by omega, hc.2, j, hj, .inl u.1.symm⟩
      · exact ⟨by omega, hc.2, j, hj, .inr u.1.symm⟩
      · omega
    · rintro ⟨_, _, j, hj, u | u⟩
      · exact ⟨j, hj, .inl ⟨u.symm, .inl (by omega)⟩⟩
      · exact ⟨j, hj, .inr (.inl ⟨u.symm, by omega⟩)⟩
  · by_cases c0 : c = 0
    · subst c0
      have e1 : (0 - 1 : Int) % P = P - 1 := by
        have e : (0 - 1 : Int) = (P - 1) + P * (-1) := by omega
        rw [e, Int.add_mul_emod_self_left, Int.emod_eq_of_lt (by omega) (by omega)]
      rw [e1, Int.zero_emod]
      have hm0 : Mem l 0 ↔ 0 < l.length ∧ fr l 0 = 0 := by
        rw [mem_idx]
        constructor
        · rintro ⟨j, hj, a, b⟩
          have h1 := h.at hj
          have h2 := h.at (show 0 < l.length by omega)
          have := (h.can.mono (Nat.zero_le j) hj).1
          exact ⟨by omega, by omega⟩
        · rintro ⟨a, b⟩
          have := h.at a
          exact ⟨0, a, by omega, by omega⟩
      have hmP : Mem l (P - 1) ↔ 0 < l.length ∧ tt l (l.length - 1) = P := by
        rw [mem_idx]
        constructor
        · rintro ⟨j, hj, a, b⟩
          have h1 := h.at hj
          have h2 := h.at (show l.length - 1 < l.length by omega)
          have := (h.can.mono (show j ≤ l.length - 1 by omega) (by omega)).2
          exact ⟨by omega, by omega⟩
        · rintro ⟨a, b⟩
          have := h.at (show l.length - 1 < l.length by omega)
          exact ⟨l.length - 1, by omega, by omega, by omega⟩
      rw [hm0, hmP]
      constructor
      · rintro ⟨j, hj, u | u | u⟩
        · have h0 := h.at (show 0 < l.length by omega)
          have := (h.can.mono (Nat.zero_le j) hj).1
          refine ⟨by omega, by omega, fun hiff => ?_⟩
          have := (hiff.2 ⟨by omega, by omega⟩).2
          omega
        · have := h.at hj
          omega
        · have h1 := h.at hj
          have h2 := h.at (show l.length - 1 < l.length by omega)
          have := (h.can.mono (show j ≤ l.length - 1 by omega) (by omega)).2
          refine ⟨by omega, by omega, fun hiff => ?_⟩
          have := (hiff.1 ⟨by omega, by omega⟩).2
          omega
      · rintro ⟨_, _, hn⟩
        have hpos : 0 < l.length := by
          rcases Nat.eq_zero_or_pos l.length with h0 | h0
          · exact absurd ⟨fun h => by omega, fun h => by omega⟩ hn
          · exact h0
        have h0 := h.at hpos
        have hL := h.at (show l.length - 1 < l.length by omega)
        by_cases u : fr l 0 = 0
        · refine ⟨0, hpos, .inl ⟨u.symm, .inr ?_⟩⟩
          by_cases v : tt l (l.length - 1) = P
          · exact absurd ⟨fun _ => ⟨hpos, u⟩, fun _ => ⟨hpos, v⟩⟩ hn
          · omega
        · refine ⟨l.length - 1, by omega, .inr (.inr ⟨rfl, ?_, by omega⟩)⟩
          by_cases v : tt l (l.length - 1) = P
          · omega
          · exact absurd ⟨fun h => absurd h.2 v, fun h => absurd h.2 u⟩ hn
    · constructor
      · rintro ⟨j, hj, u | u | u⟩
        · have := h.at hj; omega
        · have := h.at hj; omega
        · omega
      · rintro ⟨a, b, _⟩; omega
theorem ch_nodup {P : Int} {l : List Sp} (h : Std P l) : (l.flatMap (chS P l)).Pairwise (· ≠ ·) := by
  rw [List.pairwise_flatMap]
  have hfr : ∀ s ∈ l, fr l 0 ≤ s.1 := fun s hs => by
    obtain ⟨j, hj, rfl⟩ := List.getElem_of_mem hs
    rw [list_fr l hj]
    exact (h.can.mono (Nat.zero_le j) hj).1
  refine ⟨fun s hs => ?_, ?_⟩
  · have h1 := h.can.ne s hs
    have h2 := hfr s hs
    unfold chS
    refine List.pairwise_append.2 ⟨by split <;> simp, by split; simp; split <;> simp, fun a ha b hb => ?_⟩
    split at ha
    · rw [List.mem_singleton.1 ha]
      split at hb
      · rw [List.mem_singleton.1 hb]; omega
      · split at hb
        · rw [List.mem_singleton.1 hb]; omega
        · cases hb
    · cases ha
  · refine List.Pairwise.imp_of_mem (fun {s t} hs ht hst a ha b hb => ?_) h.can.pw
    have s1 := h.can.ne s hs
    have t1 := h.can.ne t ht
    have t2 := (h.bd t ht).2
    have s2 := hfr s hs
    rcases mem_chS.1 ha with u | u | u <;> rcases mem_chS.1 hb with v | v | v <;> omega
theorem ch_ChL {P : Int} {l : List Sp} (h : Std P l) (hn : 0 < (l.flatMap (chS P l)).length) : ChL P l (sortI (l.flatMap (chS P l))) := by
  have hp := sortI_perm (l.flatMap (chS P l))
  refine ⟨h.p1, by rw [sortI_len]; exact hn, ?_, fun c => by rw [hp.mem_iff]; exact chg_iff h⟩
  have h1 := sortI_sorted (l.flatMap (chS P l))
  have h2 : (sortI (l.flatMap (chS P l))).Pairwise (· ≠ ·) := (hp.symm.pairwise_iff (fun h => Ne.symm h)).1 (ch_nodup h)
  exact (List.pairwise_and_iff.2 ⟨h1, h2⟩).imp fun ⟨a, b⟩ => by omega
theorem const_inv {P : Int} {l : List Sp} (h : ∀ c, ¬ Chg P l c) (q : Int) : InvQ P l q := by
  have step : ∀ c, PS P l (c - 1) ↔ PS P l c := fun c => Classical.byContradiction fun hn => h c hn
  have up : ∀ (n : Nat) (x : Int), PS P l (x + n) ↔ PS P l x := by
    intro n
    induction n with
    | zero => intro x; simp
    | succ n ih =>
      intro x
      have := step (x + ((n + 1 : Nat) : Int))
      rw [show x + ((n + 1 : Nat) : Int) - 1 = x + n by omega] at this
      rw [← this, ih]
  intro x
  rcases Int.le_total 0 q with hq | hq
  · obtain ⟨n, rfl⟩ := Int.eq_ofNat_of_zero_le hq
    exact up n x
  · obtain ⟨n, hn⟩ := Int.eq_ofNat_of_zero_le (show 0 ≤ -q by omega)
    have := up n (x + q)
    rw [show x + q + (n : Int) = x by omega] at this
    exact this.symm
theorem chg_all {P : Int} {l : List Sp} (hP : 1 ≤ P) (h : ∀ c, 0 ≤ c → c < P → ¬ Chg P l c) (c : Int) : ¬ Chg P l c := by
  have h1 := Int.emod_nonneg c (show P ≠ 0 by omega)
  have h2 := Int.emod_lt_of_pos c (show 0 < P by omega)
  have h3 := Int.emod_add_mul_ediv c P
  have := h (c % P) h1 h2
  rw [← Chg_per (P := P) (l := l) (c % P) (c / P), h3] at this
  exact this
theorem p_periodic_repeats {P q : Int} {l : List Sp} (h : Std P l) (hP2 : P ≤ 12622780800) (hl : l.length ≤ 100000) (hq1 : 1 ≤ q) (hq : q ∣ P) : m_periodic_repeats std P q l = some (invB P l q) := by
  have hP := h.p1
  have hq2 : q ≤ P := Int.le_of_dvd (by omega) hq
  have hcl := chL_len P l l
  rw [m_periodic_repeats_eq, p_chg_loop (by omega), Option.bind_some, m_sortI_eq]
  refine bB (gR (by omega) rfl) ?_
  rw [sortI_len]
  by_cases h0 : (l.flatMap (chS P l)).length = 0
  · refine bT (eT (by omega)) (congrArg some (invB_t (const_inv (chg_all hP fun c c1 c2 hc => ?_) q)).symm)
    have := (chg_iff h).2 ⟨c1, c2, hc⟩
    rw [List.eq_nil_of_length_eq_zero h0] at this
    cases this
  · refine bF (eF (by omega)) ?_
    have hC := ch_ChL h (by omega)
    have hlen := sortI_len (l.flatMap (chS P l))
    obtain ⟨C, hCe⟩ : ∃ C, sortI (l.flatMap (chS P l)) = C := ⟨_, rfl⟩
    rw [hCe] at hC hlen ⊢
    rw [← hlen]
    obtain ⟨n, hn⟩ : ∃ n : Int, (C.length : Int) * q = n := ⟨_, rfl⟩
    have hn0 : 0 ≤ n := by rw [← hn]; exact Int.mul_nonneg (by omega) (by omega)
    have hn1 : n ≤ 200000 * 12622780800 := by
      rw [← hn]
      exact Int.mul_le_mul (by omega) (by omega) (by omega) (by omega)
    have hdiv : Int.tdiv n P = n / P := Int.tdiv_eq_ediv_of_nonneg hn0
    have hk0 : 0 ≤ n / P := Int.ediv_nonneg hn0 (by omega)
    have hk1 : n / P ≤ n := Int.ediv_le_self _ hn0
    have hme := Int.emod_add_mul_ediv n P
    have hme0 := Int.emod_nonneg n (show P ≠ 0 by omega)
    rw [hn, hdiv]
    obtain ⟨k, hk⟩ : ∃ k : Nat, n / P = k := Int.eq_ofNat_of_zero_le hk0
    rw [hk] at hk0 hk1 hme ⊢
    have hkP : (k : Int) * P = P * k := Int.mul_comm _ _
    have hkn : (k : Int) * P ≤ n := by rw [hkP]; omega
    have hkn0 : 0 ≤ (k : Int) * P := Int.mul_nonneg hk0 (by omega)
    refine gI (by omega) (gZ (by omega) (gI (by omega) (gI (by omega) ?_)))
    obtain ⟨T, hT⟩ : ∃ T : Nat, q * (T : Int) = P := by
      obtain ⟨t, ht⟩ := hq
      have : 0 ≤ t := by
        rcases Int.lt_or_le t 0 with hneg | hneg
        · exfalso
          have : q * t ≤ 1 * t := Int.mul_le_mul_of_nonpos_right hq1 (by omega)
          omega
        · exact hneg
      obtain ⟨t', rfl⟩ := Int.eq_ofNat_of_zero_le this
      exact ⟨t', ht.symm⟩
    by_cases hi : InvQ P l q
    · rw [invB_t hi]
      obtain ⟨k', k1, _, k3, k4, k5⟩ := hC.of_inv hq1 hT hi
      have hkk : k' = k := by
        rw [hn] at k3
        have : n / P = k' := by rw [k3]; exact Int.mul_ediv_cancel _ (by omega)
        omega
      subst hkk
      refine bF (nF (eT (by rw [hn] at k3; omega))) (gZ (by omega) (bF (nF (eT ?_)) ?_))
      · have := nat_tmod k' 2
        rw [show ((2 : Nat) : Int) = 2 from rfl] at this
        rw [this, k4]; rfl
      · have hloop := loop_to' (B := m_periodic_repeats_L2 std C P q) (n := C.length) (fun i => (i : Int)) (e := .inr ()) (by omega) (fun i hi => by
          have hci := hC.at hi
          have hm := Nat.mod_lt (i + k') (show 0 < C.length by omega)
          rw [m_periodic_repeats_L2_eq, hn, hdiv, hk]
          have em : Int.tmod ((i : Int) + (k' : Int)) (C.length : Int) = (((i + k') % C.length : Nat) : Int) := by rw [← nat_tmod, Int.natCast_add]
          rw [em]
          simp only [Int.toNat_natCast]
          have h5 := k5 i hi
          have hcm := hC.at hm
          refine bT (dT (by omega)) (gX (by omega) (gK hi (gI (by omega) (bB (v := wrapP P (C.getD i 0 + q)) ?_ (gI (by omega) (gZ (by omega) (gX (by omega) (gK hm (bF (nF (eT h5)) (gI (by omega) rfl))))))))))
          unfold wrapP
          by_cases hw : P ≤ C.getD i 0 + q
          · rw [if_pos hw]; exact bT (dT hw) (gI (by omega) rfl)
          · rw [if_neg hw]; exact bF (dF hw) rfl) (by rw [m_periodic_repeats_L2_eq]; exact bF (dF (by omega)) rfl)
        have hloop' : loop (m_periodic_repeats_L2 std C P q) 0 = some (.inr ()) := hloop
        rw [hloop']; rfl
    · rw [invB_f hi]
      by_cases hnk : (k : Int) * P = n
      · refine bF (nF (eT hnk)) (gZ (by omega) ?_)
        by_cases hodd : k % 2 = 0
        · refine bF (nF (eT ?_)) ?_
          · have := nat_tmod k 2
            rw [show ((2 : Nat) : Int) = 2 from rfl] at this
            rw [this, hodd]; rfl
          · have hstep : ∀ i, i < C.length → m_periodic_repeats_L2 std C P q (i : Int) = if C.getD ((i + k) % C.length) 0 = wrapP P (C.getD i 0 + q) then some (.inl ((i + 1 : Nat) : Int)) else some (.inr (.inl ())) := fun i hi => by
              have hci := hC.at hi
              have hm := Nat.mod_lt (i + k) (show 0 < C.length by omega)
              rw [m_periodic_repeats_L2_eq, hn, hdiv, hk]
              have em : Int.tmod ((i : Int) + (k : Int)) (C.length : Int) = (((i + k) % C.length : Nat) : Int) := by rw [← nat_tmod, Int.natCast_add]
              rw [em]
              simp only [Int.toNat_natCast]
              have hcm := hC.at hm
              refine bT (dT (by omega)) (gX (by omega) (gK hi (gI (by omega) (bB (v := wrapP P (C.getD i 0 + q)) ?_ (gI (by omega) (gZ (by omega) (gX (by omega) (gK hm ?_))))))))
              · unfold wrapP
                by_cases hw : P ≤ C.getD i 0 + q
                · rw [if_pos hw]; exact bT (dT hw) (gI (by omega) rfl)
                · rw [if_neg hw]; exact bF (dF hw) rfl
              · by_cases hw : C.getD ((i + k) % C.length) 0 = wrapP P (C.getD i 0 + q)
                · rw [if_pos hw]; exact bF (nF (eT hw)) (gI (by omega) rfl)
                · rw [if_neg hw]; exact bT (nT (eF hw)) rfl
            have h2 := loop_first (B := m_periodic_repeats_L2 std C P q) (n := C.length) (p := fun i => decide (C.getD ((i + k) % C.length) 0 = wrapP P (C.getD i 0 + q))) (e1 := fun _ => .inl ()) (e0 := .inr ()) (by omega)
              (fun i hi hp => by rw [hstep i hi, if_pos (of_decide_eq_true hp)]) (fun i hi hp => by rw [hstep i hi, if_neg (of_decide_eq_false hp)]) (by rw [m_periodic_repeats_L2_eq]; exact bF (dF (by omega)) rfl)
            rcases h2 with ⟨h3, _⟩ | ⟨j, _, _, _, h5⟩
            · exact absurd (hC.inv_of hq1 hq2 (by rw [hn, hnk]) hodd fun i hi => of_decide_eq_true (h3 i hi)) hi
            · rw [h5]; rfl
        · refine bT (nT (eF ?_)) rfl
          have := nat_tmod k 2
          rw [show ((2 : Nat) : Int) = 2 from rfl] at this
          rw [this]; omega
      · exact bT (nT (eF hnk)) rfl
end
section
/-! cut -/
theorem cutTo_snoc (b : Int) (l : List Sp) (s : Sp) : cutTo b (l ++ [s]) = cutTo b l ++ if s.1 < b then [(s.1, mi s.2 b)] else [] := by
  unfold cutTo
  rw [List.filter_append, List.map_append]
  congr 1
  by_cases h : s.1 < b
  · simp [h]
  · simp [h]
theorem cutTo_len (b : Int) (l : List Sp) : (cutTo b l).length ≤ l.length := by unfold cutTo; rw [List.length_map]; exact List.length_filter_le _ _
theorem p_periodic_least_L2 (b : Int) (l : List Sp) (hl : l.length ≤ 1099511627775) : loop (m_periodic_least_L2 std b l) (0, ([] : List Sp)) = some (cutTo b l) := by
  have h := loop_up (B := m_periodic_least_L2 std b l) (n := l.length) (fun i => cutTo b (l.take i)) (e := cutTo b l) (by omega) (fun i hi => by
    have hlen := cutTo_len b (l.take i)
    rw [List.length_take] at hlen
    rw [take_succ' l hi, cutTo_snoc, m_periodic_least_L2_eq]
    generalize cutTo b (l.take i) = acc at *
    simp only [Int.toNat_natCast, fr_def, tt_def]
    refine bT (dT (by omega)) (gX (by omega) (gK hi ?_))
    by_cases h : fr l i < b
    · rw [if_pos h]
      exact bB (bT (dT h) (gR (by omega) (gR (by simp) rfl))) (gI (by omega) rfl)
    · rw [if_neg h, List.append_nil]
      exact bB (bF (dF h) rfl) (gI (by omega) rfl)) (by
    rw [m_periodic_least_L2_eq]
    refine bF (dF (by omega)) ?_
    simp only [List.take_length])
  exact h
theorem p_ref13_cut_L1 (b : Int) (l : List Sp) (hl : l.length ≤ 1099511627775) : loop (m_ref13_cut_L1 std l b) (0, ([] : List Sp)) = some (cutTo b l) := by
  have h := loop_up (B := m_ref13_cut_L1 std l b) (n := l.length) (fun i => cutTo b (l.take i)) (e := cutTo b l) (by omega) (fun i hi => by
    have hlen := cutTo_len b (l.take i)
    rw [List.length_take] at hlen
    rw [take_succ' l hi, cutTo_snoc, m_ref13_cut_L1_eq]
    generalize cutTo b (l.take i) = acc at *
    simp only [Int.toNat_natCast, fr_def, tt_def]
    refine bT (dT (by omega)) (gX (by omega) (gK hi ?_))
    by_cases h : fr l i < b
    · rw [if_pos h]
      exact bB (bT (dT h) (gR (by omega) (gR (by simp) rfl))) (gI (by omega) rfl)
    · rw [if_neg h, List.append_nil]
      exact bB (bF (dF h) rfl) (gI (by omega) rfl)) (by
    rw [m_ref13_cut_L1_eq]
    refine bF (dF (by omega)) ?_
    simp only [List.take_length])
  exact h
theorem p_ref13_cut (b : Int) (l : List Sp) (hl : l.length ≤ 1099511627775) : m_ref13_cut std b l = some (b, cutTo b l) := by
  rw [m_ref13_cut_eq, p_ref13_cut_L1 b l hl]; rfl

/-! the search -/
theorem nat_dvd {p q : Nat} : ((q : Int) ∣ (p : Int)) ↔ p % q = 0 := by rw [Int.natCast_dvd_natCast]; exact Nat.dvd_iff_mod_eq_zero
/-- what is known ahead of q -/
structure SrcI (p : Nat) (l : List Sp) (q : Nat) (best : Int) : Prop where
  q1 : 1 ≤ q
  no : ∀ d : Nat, 1 ≤ d → d < q → p % d = 0 → ¬ InvQ p l d
  b1 : 1 ≤ best
  b2 : best ∣ (p : Int)
  b3 : InvQ p l best
  le : ∀ d : Nat, 1 ≤ d → d < q → p % d = 0 → InvQ p l ((p / d : Nat) : Int) → best ≤ ((p / d : Nat) : Int)
theorem SrcI.done {p q : Nat} {l : List Sp} {best : Int} (h : SrcI p l q best) (hp : 1 ≤ p) (hq : p / q < q) : Best p l best := by
  refine ⟨h.b1, h.b2, h.b3, fun d h1 h2 h3 => ?_⟩
  obtain ⟨d, rfl⟩ := Int.eq_ofNat_of_zero_le (show 0 ≤ d by omega)
  have hd := nat_dvd.1 h2
  have hle : d ≤ p := by have := Int.le_of_dvd (by omega) h2; omega
  rcases Nat.lt_or_ge d q with hlt | hge
  · exact absurd h3 (h.no d (by omega) hlt hd)
  · have hdd : p / d * d = p := Nat.div_mul_cancel (Nat.dvd_of_mod_eq_zero hd)
    have e1 : p / d < q := by
      have : p / d ≤ p / q := Nat.div_le_div_left hge (by have := h.q1; omega)
      omega
    have e2 : 1 ≤ p / d := Nat.div_pos hle (by omega)
    have e3 : p % (p / d) = 0 := Nat.mod_eq_zero_of_dvd ⟨d, hdd.symm⟩
    have e4 : p / (p / d) = d := by
      refine Nat.div_eq_of_eq_mul_left (by omega) ?_
      rw [Nat.mul_comm]; exact hdd.symm
    have := h.le (p / d) e2 e1 e3 (by rw [e4]; exact h3)
    rwa [e4] at this
theorem found_best {p q : Nat} {l : List Sp} (q1 : 1 ≤ q) (hno : ∀ d : Nat, 1 ≤ d → d < q → p % d = 0 → ¬ InvQ p l d) (hd : p % q = 0) (hi : InvQ p l q) : Best p l q := by
  refine ⟨by omega, nat_dvd.2 hd, hi, fun d h1 h2 h3 => ?_⟩
  obtain ⟨d, rfl⟩ := Int.eq_ofNat_of_zero_le (show 0 ≤ d by omega)
  rcases Nat.lt_or_ge d q with hlt | hge
  · exact absurd h3 (hno d (by omega) hlt (nat_dvd.1 h2))
  · omega
theorem SrcI.found {p q : Nat} {l : List Sp} {best : Int} (h : SrcI p l q best) (hd : p % q = 0) (hi : InvQ p l q) : Best p l q := found_best h.q1 h.no hd hi
theorem SrcI.skip {p q : Nat} {l : List Sp} {best : Int} (h : SrcI p l q best) (hd : p % q ≠ 0) : SrcI p l (q + 1) best := by
  refine ⟨by omega, fun d h1 h2 h3 => ?_, h.b1, h.b2, h.b3, fun d h1 h2 h3 => ?_⟩
  · by_cases e : d = q
    · subst e; exact absurd h3 hd
    · exact h.no d h1 (by omega) h3
  · by_cases e : d = q
    · subst e; exact absurd h3 hd
    · exact h.le d h1 (by omega) h3
theorem SrcI.next {p q : Nat} {l : List Sp} {best : Int} (h : SrcI p l q best) (hp : 1 ≤ p) (hd : p % q = 0) (hn : ¬ InvQ p l q) : SrcI p l (q + 1) (if invB p l ((p / q : Nat) : Int) = true then ((p / q : Nat) : Int) else best) := by
  have hq1 := h.q1
  have hdq : q ≤ p := Nat.le_of_dvd (by omega) (Nat.dvd_of_mod_eq_zero hd)
  have hno : ∀ d : Nat, 1 ≤ d → d < q + 1 → p % d = 0 → ¬ InvQ p l d := fun d h1 h2 h3 => by
    by_cases e : d = q
    · subst e; exact hn
    · exact h.no d h1 (by omega) h3
  by_cases hi : InvQ p l ((p / q : Nat) : Int)
  · rw [if_pos (invB_t hi)]
    refine ⟨by omega, hno, by have := Nat.div_pos hdq (show 0 < q by omega); omega, nat_dvd.2 (Nat.mod_eq_zero_of_dvd ⟨q, (Nat.div_mul_cancel (Nat.dvd_of_mod_eq_zero hd)).symm⟩), hi, fun d h1 h2 h3 h4 => ?_⟩
    have : p / q ≤ p / d := Nat.div_le_div_left (by omega) (by omega)
    omega
  · rw [if_neg (by rw [invB_f hi]; decide)]
    refine ⟨by omega, hno, h.b1, h.b2, h.b3, fun d h1 h2 h3 h4 => ?_⟩
    by_cases e : d = q
    · subst e; exact absurd h4 hi
    · exact h.le d h1 (by omega) h3 h4
theorem SrcI.init {p : Nat} {l : List Sp} (hp : 1 ≤ p) : SrcI p l 1 p :=
  ⟨by omega, fun d h1 h2 => by omega, by omega, Int.dvd_refl _, InvQ.self _ _, fun d h1 h2 => by omega⟩
theorem mod_eq (p q : Nat) : ((Int.tmod (p : Int) (q : Int)) == 0) = decide (p % q = 0) := by
  rw [nat_tmod]
  by_cases h : p % q = 0
  · rw [h]; rfl
  · rw [dF h]; exact eF (by omega)
theorem p_periodic_least {P : Int} {l : List Sp} (h : Std P l) (hP2 : P ≤ 12622780800) (hl : l.length ≤ 100000) : ∃ d, Best P l d ∧ m_periodic_least std P l = some (d, cutTo d l) := by
  obtain ⟨p, rfl⟩ := Int.eq_ofNat_of_zero_le (show 0 ≤ P by have := h.p1; omega)
  have hp : 1 ≤ p := by have := h.p1; omega
  have hloop := loop_is (B := m_periodic_least_L1 std l (p : Int)) (y := ((p : Int), 1)) (fun y => ∃ q : Nat, y.2 = (q : Int) ∧ SrcI p l q y.1 ∧ q ≤ 13000000000)
    (fun y => 13000000001 - y.2.toNat) (fun d => Best p l d) ⟨1, rfl, SrcI.init hp, by omega⟩ (by show _ - _ < _; omega) (by
      rintro ⟨best, z⟩ ⟨q, h1, hs, hq⟩
      change z = (q : Int) at h1
      change SrcI p l q best at hs
      subst h1
      have hq1 := hs.q1
      rw [m_periodic_least_L1_eq, nat_tdiv, mod_eq]
      have hdle : p / q ≤ p := Nat.div_le_self _ _
      have hd0 : 0 ≤ ((p / q : Nat) : Int) := Int.natCast_nonneg _
      by_cases hlt : q ≤ p / q
      · by_cases hd : p % q = 0
        · have hdv : ((q : Int) ∣ (p : Int)) := nat_dvd.2 hd
          have hdv2 : (((p / q : Nat) : Int) ∣ (p : Int)) := nat_dvd.2 (Nat.mod_eq_zero_of_dvd ⟨q, (Nat.div_mul_cancel (Nat.dvd_of_mod_eq_zero hd)).symm⟩)
          have e1 := p_periodic_repeats h hP2 hl (show (1 : Int) ≤ (q : Int) by omega) hdv
          have e2 := p_periodic_repeats h hP2 hl (show (1 : Int) ≤ ((p / q : Nat) : Int) by omega) hdv2
          by_cases hi : InvQ p l q
          · refine ⟨.inr (q : Int), ?_, hs.found hd hi⟩
            exact gZ (by omega) (gI (by omega) (bT (dT (by omega)) (bF (nF (dT hd)) (bB e1 (by rw [invB_t hi]; rfl)))))
          · refine ⟨.inl (if invB p l ((p / q : Nat) : Int) = true then ((p / q : Nat) : Int) else best, ((q + 1 : Nat) : Int)), ?_, ⟨q + 1, rfl, hs.next hp hd hi, by omega⟩, by show 13000000001 - ((q + 1 : Nat) : Int).toNat < 13000000001 - (q : Int).toNat; simp only [Int.toNat_natCast]; omega⟩
            refine gZ (by omega) (gI (by omega) (bT (dT (by omega)) (bF (nF (dT hd)) (bB e1 ?_))))
            rw [invB_f hi]
            refine bF rfl (bB e2 (bB (v := if invB p l ((p / q : Nat) : Int) = true then ((p / q : Nat) : Int) else best) ?_ (gI (by omega) rfl)))
            cases invB p l ((p / q : Nat) : Int) <;> rfl
        · refine ⟨.inl (best, ((q + 1 : Nat) : Int)), ?_, ⟨q + 1, rfl, hs.skip hd, by omega⟩, by show 13000000001 - ((q + 1 : Nat) : Int).toNat < 13000000001 - (q : Int).toNat; simp only [Int.toNat_natCast]; omega⟩
          exact gZ (by omega) (gI (by omega) (bT (dT (by omega)) (bT (nT (dF hd)) (gI (by omega) rfl))))
      · exact ⟨.inr best, gZ (by omega) (gI (by omega) (bF (dF (by omega)) rfl)), hs.done hp (by omega)⟩)
  obtain ⟨d, e, hb⟩ := hloop
  refine ⟨d, hb, ?_⟩
  rw [m_periodic_least_eq, e]
  exact bB rfl (bB (p_periodic_least_L2 d l (by omega)) rfl)
theorem sq_bd {p q : Nat} (hp : p ≤ 12622780800) (h : q * q ≤ p) : q ≤ 200000 := by
  rcases Nat.lt_or_ge 200000 q with h1 | h1
  · have : 200001 * 200001 ≤ q * q := Nat.mul_le_mul h1 h1
    omega
  · exact h1
theorem sq_small {q : Nat} (h : q ≤ 200001) : q * q ≤ 40000400001 := by
  have := Nat.mul_le_mul h h
  omega
theorem sq_div {p q : Nat} (hq : 1 ≤ q) : q * q ≤ p ↔ q ≤ p / q := (Nat.le_div_iff_mul_le (by omega)).symm
theorem p_ref13_Least {P : Int} {l : List Sp} (h : Std P l) (hP2 : P ≤ 12622780800) (hl : l.length ≤ 100000) : ∃ d, Best P l d ∧ m_ref13_Least std P l = some (d, cutTo d l) := by
  obtain ⟨p, rfl⟩ := Int.eq_ofNat_of_zero_le (show 0 ≤ P by have := h.p1; omega)
  have hp : 1 ≤ p := by have := h.p1; omega
  have hsq : ∀ q : Nat, ((q : Int) * (q : Int)) = ((q * q : Nat) : Int) := fun q => (Int.natCast_mul q q).symm
  have hloop := loop_is (B := m_ref13_Least_L1 std l (p : Int)) (y := 1) (fun y => ∃ q : Nat, y = (q : Int) ∧ 1 ≤ q ∧ (∀ d : Nat, 1 ≤ d → d < q → p % d = 0 → ¬ InvQ p l d) ∧ q ≤ 200001)
    (fun y => 200002 - y.toNat) (fun r => match r with | .inl (d, l') => Best p l d ∧ l' = cutTo d l | .inr _ => ∀ d : Nat, 1 ≤ d → d * d ≤ p → p % d = 0 → ¬ InvQ p l d) ⟨1, rfl, by omega, fun d h1 h2 => by omega, by omega⟩ (by show _ - _ < _; omega) (by
      rintro z ⟨q, rfl, hq1, hno, hq⟩
      have hsm := sq_small hq
      rw [m_ref13_Least_L1_eq, mod_eq, hsq]
      by_cases hlt : q * q ≤ p
      · have hqb := sq_bd (by omega) hlt
        have hqp : q ≤ p := Nat.le_trans (Nat.le_mul_self q) hlt
        have e1 := p_rot_same hP2 (by omega) (show (1 : Int) ≤ (q : Int) by omega) (show (q : Int) ≤ (p : Int) by omega) h
        have hgo : ¬ (p % q = 0 ∧ InvQ p l q) → (∃ q' : Nat, ((q + 1 : Nat) : Int) = (q' : Int) ∧ 1 ≤ q' ∧ (∀ d : Nat, 1 ≤ d → d < q' → p % d = 0 → ¬ InvQ p l d) ∧ q' ≤ 200001) ∧ 200002 - ((q + 1 : Nat) : Int).toNat < 200002 - (q : Int).toNat := fun hn =>
          ⟨⟨q + 1, rfl, by omega, fun d h1 h2 h3 => by
            by_cases e : d = q
            · subst e; exact fun h4 => hn ⟨h3, h4⟩
            · exact hno d h1 (by omega) h3, by omega⟩, by simp only [Int.toNat_natCast]; omega⟩
        by_cases hd : p % q = 0
        · by_cases hi : InvQ p l q
          · refine ⟨.inr (.inl ((q : Int), cutTo q l)), ?_, found_best hq1 hno hd hi, rfl⟩
            rw [invB_t hi] at e1
            exact gI (by omega) (bT (dT (by omega)) (bB (v := true) (bT (dT hd) (gZ (by omega) e1)) (bT rfl (bB (p_ref13_cut _ _ (by omega)) rfl))))
          · rw [invB_f hi] at e1
            exact ⟨.inl ((q + 1 : Nat) : Int), gI (by omega) (bT (dT (by omega)) (bB (v := false) (bT (dT hd) (gZ (by omega) e1)) (bF rfl (gI (by omega) rfl)))), hgo fun h => hi h.2⟩
        · exact ⟨.inl ((q + 1 : Nat) : Int), gI (by omega) (bT (dT (by omega)) (bB (v := false) (bF (dF hd) (gZ (by omega) rfl)) (bF rfl (gI (by omega) rfl)))), hgo fun h => hd h.1⟩
      · refine ⟨.inr (.inr ()), gI (by omega) (bF (dF (by omega)) rfl), fun d h1 h2 h3 => ?_⟩
        refine hno d h1 ?_ h3
        rcases Nat.lt_or_ge d q with h4 | h4
        · exact h4
        · have := Nat.mul_le_mul h4 h4; omega)
  rw [m_ref13_Least_eq]
  obtain ⟨e, he, hr⟩ := hloop
  rw [he]
  rcases e with ⟨d, l'⟩ | u
  · obtain ⟨hb, rfl⟩ := hr
    exact ⟨d, hb, rfl⟩
  · have hno : ∀ d : Nat, 1 ≤ d → d * d ≤ p → p % d = 0 → ¬ InvQ p l d := hr
    have hloop2 := loop_is (B := m_ref13_Least_L2 std l (p : Int)) (y := ((p : Int), 1)) (fun y => ∃ q : Nat, y.2 = (q : Int) ∧ SrcI p l q y.1 ∧ q ≤ 200001)
      (fun y => 200002 - y.2.toNat) (fun d => Best p l d) ⟨1, rfl, SrcI.init hp, by omega⟩ (by show _ - _ < _; omega) (by
        rintro ⟨best, z⟩ ⟨q, h1, hs, hq⟩
        change z = (q : Int) at h1
        change SrcI p l q best at hs
        subst h1
        have hq1 := hs.q1
        have hsm := sq_small hq
        have hdle : p / q ≤ p := Nat.div_le_self _ _
        have hd0 : 0 ≤ ((p / q : Nat) : Int) := Int.natCast_nonneg _
        rw [m_ref13_Least_L2_eq, nat_tdiv, mod_eq, hsq]
        by_cases hlt : q * q ≤ p
        · have hqb := sq_bd (by omega) hlt
          have hlt2 := (sq_div hq1).1 hlt
          by_cases hd : p % q = 0
          · have e1 := p_rot_same hP2 (by omega) (show (1 : Int) ≤ ((p / q : Nat) : Int) by omega) (show ((p / q : Nat) : Int) ≤ (p : Int) by omega) h
            refine ⟨.inl (if invB p l ((p / q : Nat) : Int) = true then ((p / q : Nat) : Int) else best, ((q + 1 : Nat) : Int)), ?_, ⟨q + 1, rfl, hs.next hp hd (hno q hq1 hlt hd), by omega⟩, by show 200002 - ((q + 1 : Nat) : Int).toNat < 200002 - (q : Int).toNat; simp only [Int.toNat_natCast]; omega⟩
            refine gI (by omega) (bT (dT (by omega)) (bB (v := invB p l ((p / q : Nat) : Int)) (bT (dT hd) (gZ (by omega) (gI (by omega) e1))) (bB (v := if invB p l ((p / q : Nat) : Int) = true then ((p / q : Nat) : Int) else best) ?_ (gI (by omega) rfl))))
            cases invB p l ((p / q : Nat) : Int)
            · rfl
            · exact bT rfl (gI (by omega) rfl)
          · refine ⟨.inl (best, ((q + 1 : Nat) : Int)), ?_, ⟨q + 1, rfl, hs.skip hd, by omega⟩, by show 200002 - ((q + 1 : Nat) : Int).toNat < 200002 - (q : Int).toNat; simp only [Int.toNat_natCast]; omega⟩
            exact gI (by omega) (bT (dT (by omega)) (bB (v := false) (bF (dF hd) (gZ (by omega) rfl)) (bB (v := best) rfl (gI (by omega) rfl))))
        · refine ⟨.inr best, gI (by omega) (bF (dF (by omega)) rfl), hs.done hp ?_⟩
          rcases Nat.lt_or_ge (p / q) q with h4 | h4
          · exact h4
          · exact absurd ((sq_div hq1).2 h4) hlt)
    obtain ⟨d, e2, hb⟩ := hloop2
    refine ⟨d, hb, ?_⟩
    refine bB rfl (bB e2 (bB (p_ref13_cut d l (by omega)) rfl))
end
section
/-- a set as the program takes it -/
structure VP (P : Int) (l : List Sp) : Prop extends PV P l where
  p2 : P ≤ 12622780800
  n2 : l.length ≤ 2000
noncomputable def pvB (P : Int) (l : List Sp) : Bool := @decide (VP P l) (Classical.propDecidable _)
theorem pvB_t {P : Int} {l : List Sp} (h : VP P l) : pvB P l = true := by unfold pvB; exact @decide_eq_true _ (Classical.propDecidable _) h
theorem pvB_f {P : Int} {l : List Sp} (h : ¬ VP P l) : pvB P l = false := by unfold pvB; exact @decide_eq_false _ (Classical.propDecidable _) h
theorem pvB_iff {P : Int} {l : List Sp} : pvB P l = true ↔ VP P l :=
  ⟨fun h => Classical.byContradiction fun h' => by (rw [pvB_f h'] at h; cases h), pvB_t⟩
/-- canonical, from 0 to P -/
def insB (P : Int) (l : List Sp) : Bool := decide (l.length ≤ 2000) && (canB l && (decide (l.length = 0) || (decide (0 ≤ fr l 0) && decide (tt l (l.length - 1) ≤ P))))
theorem insB_iff {P : Int} {l : List Sp} (hP : 1 ≤ P) (hP2 : P ≤ 12622780800) : insB P l = true ↔ l.length ≤ 2000 ∧ Std P l := by
  unfold insB
  rw [Bool.and_eq_true, Bool.and_eq_true, Bool.or_eq_true, Bool.and_eq_true, decide_eq_true_eq, decide_eq_true_eq, decide_eq_true_eq, decide_eq_true_eq, canB_iff]
  constructor
  · rintro ⟨h1, ⟨h2, h3⟩, h4⟩
    refine ⟨h1, hP, h2, fun s hs => ?_⟩
    obtain ⟨j, hj, rfl⟩ := List.getElem_of_mem hs
    rw [list_fr l hj]
    have a := h2.mono (Nat.zero_le j) hj
    have b := h2.mono (show j ≤ l.length - 1 by omega) (by omega)
    show 0 ≤ fr l j ∧ tt l j ≤ P
    omega
  · rintro ⟨h1, h2⟩
    refine ⟨h1, ⟨h2.can, fun s hs => ?_⟩, ?_⟩
    · have := h2.bd s hs
      have := h2.can.ne s hs
      omega
    · rcases Nat.eq_zero_or_pos l.length with h0 | h0
      · exact .inl h0
      · have a := h2.at h0
        have b := h2.at (show l.length - 1 < l.length by omega)
        exact .inr ⟨by omega, by omega⟩
theorem p_runs_Valid' (l : List Sp) : m_runs_Valid std l = some (decide (l.length ≤ 2000) && canB l) := by
  rw [m_runs_Valid_eq]
  by_cases h : l.length ≤ 2000
  · rw [dT h, Bool.true_and]
    exact bF (dF (by omega)) (p_runs_Valid l (by omega))
  · rw [dF h]
    exact bT (dT (by omega)) rfl
theorem p_periodic_inside (P : Int) (l : List Sp) : m_periodic_inside std P l = some (insB P l) := by
  rw [m_periodic_inside_eq]
  refine bB (v := insB P l) (bB (p_runs_Valid' l) ?_) rfl
  unfold insB
  by_cases h : l.length ≤ 2000
  · rw [dT h]
    cases canB l with
    | false => rfl
    | true =>
      rcases Nat.eq_zero_or_pos l.length with h0 | h0
      · rw [dT h0]
        exact bT rfl (bT (eT (by omega)) rfl)
      · rw [dF (show ¬ l.length = 0 by omega)]
        refine bT rfl (bF (eF (by omega)) ?_)
        have e0 : Int.toNat (((l.length : Nat) : Int) - 1) = l.length - 1 := by omega
        have ez : Int.toNat 0 = 0 := rfl
        simp only [fr_def, tt_def, e0, ez]
        by_cases h1 : 0 ≤ fr l 0
        · rw [dT h1]
          exact bT rfl (gX (by omega) (gK (by omega) (gI (by omega) (gX (by omega) (gK (by omega) rfl)))))
        · rw [dF h1]
          exact bF rfl (gX (by omega) (gK (by omega) rfl))
  · rw [dF h]; rfl
theorem pv_least {P d : Int} {l : List Sp} (h : Std P l) (hP2 : P ≤ 12622780800) (hn : l.length ≤ 2000) (hb : Best P l d) : (d == P) = pvB P l := by
  by_cases e : d = P
  · subst e
    rw [pvB_t ⟨⟨h, hb⟩, hP2, hn⟩]; simp
  · rw [pvB_f fun h' => e (hb.uniq h'.best)]
    exact eF e
theorem p_periodic_Valid (P : Int) (l : List Sp) : m_periodic_Valid std P l = some (pvB P l) := by
  rw [m_periodic_Valid_eq]
  refine bB (v := pvB P l) ?_ rfl
  by_cases h1 : 1 ≤ P
  · refine bT (dT h1) ?_
    by_cases h2 : P ≤ 12622780800
    · refine bT (dT h2) (bB (p_periodic_inside P l) ?_)
      cases hi : insB P l with
      | false =>
        rw [pvB_f fun h => by rw [(insB_iff h1 h2).2 ⟨h.n2, h.toStd⟩] at hi; cases hi]; rfl
      | true =>
        obtain ⟨hn, hs⟩ := (insB_iff h1 h2).1 hi
        obtain ⟨d, hb, e⟩ := p_periodic_least hs h2 (by omega)
        rw [e]
        refine bT rfl (bB rfl (congrArg some ?_))
        exact pv_least hs h2 hn hb
    · rw [pvB_f fun h => h2 h.p2]
      exact bF (dF h2) rfl
  · rw [pvB_f fun h => h1 h.p1]
    exact bF (dF h1) rfl
theorem p_ref13_Valid (P : Int) (l : List Sp) : m_ref13_Valid std P l = some (pvB P l) := by
  rw [m_ref13_Valid_eq]
  by_cases h1 : 1 ≤ P
  · by_cases h2 : P ≤ 12622780800
    · by_cases h3 : l.length ≤ 2000
      · refine bB (v := !canB l) (bF (dF (by omega)) (bF (dF (by omega)) (bF (dF (by omega)) (bB (by rw [m_ref13_Runs_eq]; exact p_ref13_Runs l (by omega)) rfl)))) ?_
        cases hc : canB l with
        | false =>
          rw [pvB_f fun h => by
            have := (canB_iff).2 ⟨h.can, fun s hs => by have := h.bd s hs; have := h.can.ne s hs; omega⟩
            rw [this] at hc; cases hc]
          rfl
        | true =>
          refine bF rfl ?_
          have hio : insB P l = (decide (l.length = 0) || (decide (0 ≤ fr l 0) && decide (tt l (l.length - 1) ≤ P))) := by unfold insB; rw [dT h3, hc]; simp
          refine bB (v := !insB P l) ?_ ?_
          · rw [hio]
            rcases Nat.eq_zero_or_pos l.length with h0 | h0
            · rw [dT h0]
              exact bF (dF (by omega)) rfl
            · rw [dF (show ¬ l.length = 0 by omega)]
              refine bT (dT (by omega)) ?_
              have e0 : Int.toNat (((l.length : Nat) : Int) - 1) = l.length - 1 := by omega
              have ez : Int.toNat 0 = 0 := rfl
              simp only [fr_def, tt_def, e0, ez]
              by_cases h4 : 0 ≤ fr l 0
              · rw [dT h4]
                refine bF (dF (by omega)) (gX (by omega) (gK (by omega) (gI (by omega) (gX (by omega) (gK (by omega) (congrArg some ?_))))))
                by_cases h5 : tt l (l.length - 1) ≤ P
                · rw [dT h5, dF (by omega)]; rfl
                · rw [dF h5, dT (by omega)]; rfl
              · rw [dF h4]
                exact bT (dT (by omega)) (gX (by omega) (gK (by omega) rfl))
          · cases hi : insB P l with
            | false =>
              rw [pvB_f fun h => by rw [(insB_iff h1 h2).2 ⟨h.n2, h.toStd⟩] at hi; cases hi]; rfl
            | true =>
              obtain ⟨hn, hs⟩ := (insB_iff h1 h2).1 hi
              obtain ⟨d, hb, e⟩ := p_ref13_Least hs h2 (by omega)
              rw [e]
              refine bF rfl (bB rfl (congrArg some ?_))
              exact pv_least hs h2 hn hb
      · rw [pvB_f fun h => h3 h.n2]
        exact bB (v := true) (bF (dF (by omega)) (bF (dF (by omega)) (bT (dT (by omega)) rfl))) (bT rfl rfl)
    · rw [pvB_f fun h => h2 h.p2]
      exact bB (v := true) (bF (dF (by omega)) (bT (dT (by omega)) rfl)) (bT rfl rfl)
  · rw [pvB_f fun h => h1 h.p1]
    exact bB (v := true) (bT (dT (by omega)) rfl) (bT rfl rfl)

/-! the form of a list -/
/-- what is given back for a list from 0 to P: its form, or the error for too many -/
def IsNF (P : Int) (l : List Sp) (r : Int × List Sp × Int) : Prop := ∃ d, Best P l d ∧ r = if 2000 < (cutTo d l).length then (0, [], 5) else (d, cutTo d l, 0)
theorem IsNF.uniq {P : Int} {l : List Sp} {r r' : Int × List Sp × Int} (h : IsNF P l r) (h' : IsNF P l r') : r = r' := by
  obtain ⟨d, hb, rfl⟩ := h
  obtain ⟨d', hb', rfl⟩ := h'
  rw [hb.uniq hb']
theorem IsNF.same {P : Int} {l l' : List Sp} {r r' : Int × List Sp × Int} (h : IsNF P l r) (h' : IsNF P l' r') (hs : Std P l) (hs' : Std P l') (hm : ∀ x, Mem l x ↔ Mem l' x) : r = r' := by
  have := can_unique hs.can hs'.can hm
  subst this
  exact h.uniq h'
theorem p_periodic_limited {P : Int} {l : List Sp} (h : Std P l) (hP2 : P ≤ 12622780800) (hl : l.length ≤ 100000) : ∃ r, m_periodic_limited std P l = some r ∧ IsNF P l r := by
  obtain ⟨d, hb, e⟩ := p_periodic_least h hP2 hl
  rw [m_periodic_limited_eq, e]
  refine ⟨_, ?_, d, hb, rfl⟩
  refine bB rfl ?_
  by_cases hc : 2000 < (cutTo d l).length
  · rw [if_pos hc]; exact bT (dT (by omega)) rfl
  · rw [if_neg hc]; exact bF (dF (by omega)) rfl
theorem p_ref13_limited (P : Int) (l : List Sp) : m_ref13_limited std P l = some (if 2000 < l.length then .inl (0, 5) else .inr (P, 0)) := by
  rw [m_ref13_limited_eq]
  by_cases hc : 2000 < l.length
  · rw [if_pos hc]; exact bT (dT (by omega)) rfl
  · rw [if_neg hc]; exact bF (dF (by omega)) rfl

/-! spans anywhere -/
theorem InF_iff {P : Int} {s : Sp} (hP : 1 ≤ P) {x : Int} : InF P s x ↔ 0 ≤ x ∧ x < P ∧ (x - s.1) % P < s.2 - s.1 := by
  constructor
  · rintro ⟨y, a, b, rfl⟩
    have h1 := Int.emod_nonneg y (show P ≠ 0 by omega)
    have h2 := Int.emod_lt_of_pos y (show 0 < P by omega)
    refine ⟨h1, h2, ?_⟩
    have e : (y % P - s.1) % P = (y - s.1) % P := by rw [Int.emod_sub_emod]
    rw [e]
    have : (y - s.1) % P ≤ y - s.1 := by
      have h3 := Int.emod_add_mul_ediv (y - s.1) P
      have h4 : 0 ≤ P * ((y - s.1) / P) := Int.mul_nonneg (by omega) (Int.ediv_nonneg (by omega) (by omega))
      omega
    omega
  · rintro ⟨h1, h2, h3⟩
    have h4 := Int.emod_nonneg (x - s.1) (show P ≠ 0 by omega)
    have h5 := Int.emod_add_mul_ediv (x - s.1) P
    refine ⟨s.1 + (x - s.1) % P, by omega, by omega, ?_⟩
    have e : s.1 + (x - s.1) % P = x + P * (-((x - s.1) / P)) := by rw [Int.mul_neg]; omega
    rw [e, Int.add_mul_emod_self_left, Int.emod_eq_of_lt h1 h2]
theorem MemF_nil {P : Int} {x : Int} : ¬ MemF P [] x := fun ⟨_, h, _⟩ => by cases h
theorem MemF_app {P : Int} {l : List Sp} {s : Sp} {x : Int} : MemF P (l ++ [s]) x ↔ MemF P l x ∨ InF P s x := by
  unfold MemF
  constructor
  · rintro ⟨t, ht, h⟩
    rcases List.mem_append.1 ht with ht | ht
    · exact .inl ⟨t, ht, h⟩
    · rw [List.mem_singleton.1 ht] at h; exact .inr h
  · rintro (⟨t, ht, h⟩ | h)
    · exact ⟨t, List.mem_append_left _ ht, h⟩
    · exact ⟨s, by simp, h⟩
theorem spsB_at {l : List Sp} (h : spsB l = true) : ∀ s ∈ l, -4398046511104 ≤ s.1 ∧ s.2 ≤ 4398046511104 ∧ s.1 < s.2 := fun s hs => by
  unfold spsB at h
  rw [List.all_eq_true] at h
  exact svB_iff.1 (h s hs)
theorem p_ref13_one {P : Int} {s : Sp} (hP : 1 ≤ P) (hP2 : P ≤ 12622780800) (hs : -4398046511104 ≤ s.1 ∧ s.2 ≤ 4398046511104 ∧ s.1 < s.2) (hl : s.2 - s.1 < P) :
    ∃ r, (Option.bind (m_ref13_rotated std P (s.1 % P) ([(0, s.2 - s.1)])) fun e => match e with
          | .inl _ => (some [(0, s.2 - s.1)])
          | .inr (l109) => (some l109) : Option (List Sp)) = some r ∧ Std P r ∧ (∀ x, Mem r x ↔ InF P s x) ∧ r.length ≤ 4 := by
  have hst : Std P [((0 : Int), s.2 - s.1)] := ⟨hP, Can.one (by show (0 : Int) < s.2 - s.1; omega), fun t ht => by rw [List.mem_singleton.1 ht]; exact ⟨by show (0 : Int) ≤ 0; omega, by show s.2 - s.1 ≤ P; omega⟩⟩
  have a1 := Int.emod_nonneg s.1 (show P ≠ 0 by omega)
  have a2 := Int.emod_lt_of_pos s.1 (show 0 < P by omega)
  have key : ∀ x, 0 ≤ x → x < P → (PS P [((0 : Int), s.2 - s.1)] (x - s.1 % P) ↔ (x - s.1) % P < s.2 - s.1) := fun x _ _ => by
    unfold PS
    have e : (x - s.1 % P) % P = (x - s.1) % P := by rw [Int.sub_emod_emod]
    rw [e, mem_one]
    have := Int.emod_nonneg (x - s.1) (show P ≠ 0 by omega)
    exact ⟨fun h => h.2, fun h => ⟨this, h⟩⟩
  rcases p_ref13_rotated (n := s.1 % P) hP2 (by simp) (by omega) (by omega) hst with ⟨h0, e⟩ | ⟨r, h0, e, hs', hm, hlen⟩
  · rw [e]
    refine ⟨_, rfl, hst, fun x => ?_, by simp⟩
    rw [InF_iff hP, hst.mem_PS]
    refine and_congr_right fun h1 => and_congr_right fun h2 => ?_
    rw [Int.emod_emod] at h0
    have := key x h1 h2
    rwa [h0, Int.sub_zero] at this
  · rw [e]
    refine ⟨r, rfl, hs', fun x => ?_, by simpa using hlen⟩
    rw [hm, InF_iff hP]
    exact and_congr_right fun h1 => and_congr_right fun h2 => key x h1 h2
/-- what Of gives back -/
def IsOf (P : Int) (l : List Sp) (r : Int × List Sp × Int) : Prop :=
  if P < 1 ∨ 12622780800 < P ∨ spsB l = false then r = (0, [], 1) else if 2000 < l.length then r = (0, [], 5) else ∃ l', Std P l' ∧ (∀ x, Mem l' x ↔ MemF P l x) ∧ l'.length ≤ 2 * l.length + 1 ∧ IsNF P l' r
theorem IsOf.uniq {P : Int} {l : List Sp} {r r' : Int × List Sp × Int} (h : IsOf P l r) (h' : IsOf P l r') : r = r' := by
  unfold IsOf at h h'
  split at h
  · rename_i h0
    rw [if_pos h0] at h'
    rw [h, h']
  · rename_i h0
    rw [if_neg h0] at h'
    split at h
    · rename_i h1
      rw [if_pos h1] at h'
      rw [h, h']
    · rename_i h1
      rw [if_neg h1] at h'
      obtain ⟨a, a1, a2, _, a4⟩ := h
      obtain ⟨b, b1, b2, _, b4⟩ := h'
      exact a4.same b4 a1 b1 fun x => by rw [a2, b2]
theorem IsOf.bad {P : Int} {l : List Sp} (h : P < 1 ∨ 12622780800 < P ∨ spsB l = false) : IsOf P l (0, [], 1) := by unfold IsOf; rw [if_pos h]
theorem IsOf.full {P : Int} {l : List Sp} (h : ¬ (P < 1 ∨ 12622780800 < P ∨ spsB l = false)) (h2 : 2000 < l.length) : IsOf P l (0, [], 5) := by unfold IsOf; rw [if_neg h, if_pos h2]
theorem IsOf.mk' {P : Int} {l l' : List Sp} {r : Int × List Sp × Int} (h : ¬ (P < 1 ∨ 12622780800 < P ∨ spsB l = false)) (h2 : ¬ 2000 < l.length) (a1 : Std P l') (a2 : ∀ x, Mem l' x ↔ MemF P l x) (a3 : l'.length ≤ 2 * l.length + 1) (a4 : IsNF P l' r) : IsOf P l r := by unfold IsOf; rw [if_neg h, if_neg h2]; exact ⟨l', a1, a2, a3, a4⟩
theorem p_periodic_Of (P : Int) (l : List Sp) (hl : l.length ≤ 1000000) : ∃ r, m_periodic_Of std P l = some r ∧ IsOf P l r := by
  rw [m_periodic_Of_eq]
  by_cases h0 : P < 1 ∨ 12622780800 < P ∨ spsB l = false
  · refine ⟨_, bB (v := true) ?_ (bT rfl rfl), IsOf.bad h0⟩
    by_cases h1 : P < 1
    · exact bT (dT h1) rfl
    · by_cases h2 : 12622780800 < P
      · exact bF (dF h1) (bT (dT h2) rfl)
      · refine bF (dF h1) (bF (dF h2) (bB (p_slices_ContainsFunc l (by omega)) ?_))
        have : spsB l = false := by rcases h0 with h | h | h <;> first | omega | exact h
        rw [this]; rfl
  · have hs : spsB l = true := by cases h : spsB l; exact absurd (.inr (.inr h)) h0; rfl
    have hpre : ∀ {r : Int × List Sp × Int}, (bif (decide (2000 < (((List.length l) : Nat) : Int))) then (some (0, ([] : List (Int × Int)), 5)) else
      Option.bind (m_periodic_fold std P l) fun l14 => Option.bind (m_periodic_limited std P l14) fun (n8, l37, n9) => (some (n8, l37, n9)) : Option (Int × List (Int × Int) × Int)) = some r → (Option.bind (
        bif (decide (P < 1)) then (some true) else bif (decide (12622780800 < P)) then (some true) else Option.bind (m_slices_ContainsFunc std l) fun b5 => (some b5) : Option ((Bool))) fun x9 =>
        bif x9 then (some (0, ([] : List (Int × Int)), 1)) else
        bif (decide (2000 < (((List.length l) : Nat) : Int))) then (some (0, ([] : List (Int × Int)), 5)) else
      Option.bind (m_periodic_fold std P l) fun l14 => Option.bind (m_periodic_limited std P l14) fun (n8, l37, n9) => (some (n8, l37, n9)) : Option (Int × List (Int × Int) × Int)) = some r := fun h =>
      bB (v := false) (bF (dF (by omega)) (bF (dF (by omega)) (bB (p_slices_ContainsFunc l (by omega)) (by rw [hs]; rfl)))) (bF rfl h)
    by_cases h1 : 2000 < l.length
    · exact ⟨_, hpre (bT (dT (by omega)) rfl), IsOf.full h0 h1⟩
    · have hsp := spsB_at hs
      obtain ⟨l', e, a1, a2, a3⟩ := p_periodic_fold (P := P) (l := l) (by omega) (by omega) hl fun s hs => by have := hsp s hs; omega
      obtain ⟨r, e2, hr⟩ := p_periodic_limited a1 (by omega) (by omega)
      exact ⟨r, hpre (bF (dF (by omega)) (bB e (bB e2 rfl))), IsOf.mk' h0 h1 a1 a2 a3 hr⟩
end
section
/-! a set written with a multiple of its period -/
def shL (d : Int) (l : List Sp) : List Sp := l.map fun s => (s.1 + d, s.2 + d)
def copies (P : Int) (l : List Sp) : Nat → List Sp
  | 0 => []
  | t + 1 => copies P l t ++ shL (P * t) l
theorem shL_len (d : Int) (l : List Sp) : (shL d l).length = l.length := by simp [shL]
theorem copies_len (P : Int) (l : List Sp) : ∀ t, (copies P l t).length = t * l.length := by
  intro t
  induction t with
  | zero => simp [copies]
  | succ t ih => rw [copies, List.length_append, ih, shL_len, Nat.succ_mul]
theorem copies_nil (P : Int) (t : Nat) : copies P [] t = [] := by
  have := copies_len P [] t
  exact List.eq_nil_of_length_eq_zero (by simpa using this)
theorem copies_ok {P : Int} {l : List Sp} (h : Std P l) : ∀ t, (∀ s ∈ copies P l t, s.1 < s.2 ∧ 0 ≤ s.1 ∧ s.2 ≤ P * t) ∧ (copies P l t).Pairwise (fun a b => a.2 ≤ b.1) ∧ ∀ x, Mem (copies P l t) x ↔ 0 ≤ x ∧ x < P * t ∧ PS P l x := by
  have hP := h.p1
  intro t
  induction t with
  | zero => exact ⟨fun s hs => (by cases hs), List.Pairwise.nil, fun x => ⟨fun h => absurd h (mem_nil x), fun ⟨a, b, _⟩ => by simp at b; omega⟩⟩
  | succ t ih =>
    obtain ⟨h1, h2, h3⟩ := ih
    have e : P * ((t + 1 : Nat) : Int) = P * t + P := by rw [Int.natCast_add, Int.mul_add]; omega
    have ht0 : 0 ≤ P * (t : Int) := Int.mul_nonneg (by omega) (by omega)
    have hsh : ∀ s ∈ shL (P * t) l, s.1 < s.2 ∧ P * t ≤ s.1 ∧ s.2 ≤ P * t + P := fun s hs => by
      obtain ⟨u, hu, rfl⟩ := List.mem_map.1 hs
      have a := h.bd u hu
      have b := h.can.ne u hu
      exact ⟨by show u.1 + _ < u.2 + _; omega, by show _ ≤ u.1 + _; omega, by show u.2 + _ ≤ _; omega⟩
    rw [e]
    refine ⟨fun s hs => ?_, ?_, fun x => ?_⟩
    · rcases List.mem_append.1 hs with hs | hs
      · have := h1 s hs; omega
      · have := hsh s hs; omega
    · refine List.pairwise_append.2 ⟨h2, ?_, fun a ha b hb => ?_⟩
      · unfold shL
        rw [List.pairwise_map]
        exact h.can.pw.imp fun {a b} hab => by show a.2 + _ ≤ b.1 + _; omega
      · have := h1 a ha
        have := hsh b hb
        omega
    · rw [copies, mem_app, h3]
      have hx : Mem (shL (P * t) l) x ↔ Mem l (x - P * t) := by
        constructor
        · rintro ⟨s, hs, a, b⟩
          obtain ⟨u, hu, rfl⟩ := List.mem_map.1 hs
          change u.1 + P * t ≤ x at a
          change x < u.2 + P * t at b
          exact ⟨u, hu, by omega, by omega⟩
        · rintro ⟨u, hu, a, b⟩
          exact ⟨_, List.mem_map.2 ⟨u, hu, rfl⟩, by show u.1 + P * t ≤ x; omega, by show x < u.2 + P * t; omega⟩
      rw [hx]
      have hps : 0 ≤ x - P * t → x - P * t < P → (Mem l (x - P * t) ↔ PS P l x) := fun a b => by
        have e2 : x = (x - P * t) + P * t := by omega
        have := PS_per (P := P) (l := l) (x - P * t) t
        rw [← e2] at this
        rw [this]
        unfold PS
        rw [Int.emod_eq_of_lt a b]
      constructor
      · rintro (⟨a, b, c⟩ | hm)
        · exact ⟨a, by omega, c⟩
        · have hb := h.mem hm
          exact ⟨by omega, by omega, (hps hb.1 hb.2).1 hm⟩
      · rintro ⟨a, b, c⟩
        by_cases hlt : x < P * t
        · exact .inl ⟨a, hlt, c⟩
        · exact .inr ((hps (by omega) (by omega)).2 c)
theorem addL_ok : ∀ {c acc : List Sp}, Can acc → (∀ s ∈ c, s.1 < s.2) → c.Pairwise (fun a b => a.2 ≤ b.1) → (∀ t ∈ acc, ∀ s ∈ c, t.2 ≤ s.1) → Can (c.foldl addS acc) ∧ ∀ x, Mem (c.foldl addS acc) x ↔ Mem acc x ∨ Mem c x := by
  intro c
  induction c with
  | nil => intro acc h _ _ _; exact ⟨h, fun x => ⟨.inl, fun h => h.elim id fun h => absurd h (mem_nil x)⟩⟩
  | cons s c ih =>
    intro acc h hn hp ha
    obtain ⟨p1, p2⟩ := List.pairwise_cons.1 hp
    obtain ⟨q1, q2, q3⟩ := addS_ok (s := s) h (hn s (by simp)) fun t ht => ha t ht s (by simp)
    obtain ⟨r1, r2⟩ := ih q1 (fun t ht => hn t (by simp [ht])) p2 fun t ht u hu => by have := q3 t ht; have := p1 u hu; omega
    refine ⟨r1, fun x => ?_⟩
    show Mem (List.foldl addS (addS acc s) c) x ↔ _
    rw [r2, q2, mem_cons]
    exact or_assoc
theorem addL_len : ∀ (c acc : List Sp), (c.foldl addS acc).length ≤ acc.length + c.length := by
  intro c
  induction c with
  | nil => intro acc; simp
  | cons s c ih =>
    intro acc
    have := ih (addS acc s)
    have := addS_len acc s
    rw [List.length_cons]
    show (List.foldl addS (addS acc s) c).length ≤ _
    omega
/-- what spreading gives -/
structure IsSp (P m : Int) (l r : List Sp) : Prop where
  std : Std m r
  mem : ∀ x, Mem r x ↔ 0 ≤ x ∧ x < m ∧ PS P l x
  n2 : r.length ≤ 2000
theorem IsSp.uniq {P m : Int} {l r r' : List Sp} (h : IsSp P m l r) (h' : IsSp P m l r') : r = r' := can_unique h.std.can h'.std.can fun x => by rw [h.mem, h'.mem]
theorem sp_nil {P m : Int} (hm : 1 ≤ m) : IsSp P m [] [] := ⟨⟨hm, Can.nil, fun s hs => (by cases hs)⟩, fun x => ⟨fun h => absurd h (mem_nil x), fun h => absurd h.2.2 (mem_nil _)⟩, by simp⟩
theorem sp_one {m : Int} {l : List Sp} (hm : 1 ≤ m) (h : Std 1 l) (h0 : 0 < l.length) : IsSp 1 m l [(0, m)] := by
  refine ⟨⟨hm, Can.one (by show (0 : Int) < m; omega), fun t ht => by rw [List.mem_singleton.1 ht]; exact ⟨by show (0 : Int) ≤ 0; omega, Int.le_refl _⟩⟩, fun x => ?_, by simp⟩
  have hps : PS 1 l x := by
    unfold PS
    have a := h.at h0
    rw [Int.emod_one]
    exact mem_idx.2 ⟨0, h0, by omega, by omega⟩
  rw [mem_one]
  exact ⟨fun h => ⟨h.1, h.2, hps⟩, fun h => ⟨h.1, h.2.1⟩⟩
section
variable {P m : Int} {l : List Sp} {n : Nat} (h : Std P l) (hm : m = P * n) (hm1 : 1 ≤ m) (hm2 : m ≤ 12622780800) (hn : n * l.length ≤ 2000) (hl : l.length ≤ 2000)
include h hm hm1 hm2 hn hl
theorem p_periodic_spread : ∃ r, m_periodic_spread std P m l = some r ∧ IsSp P m l r := by
  have hP := h.p1
  have hPm : n ≠ 0 := by rintro rfl; rw [Int.natCast_zero, Int.mul_zero] at hm; omega
  have hPle : P ≤ m := by
    have : P * 1 ≤ P * n := Int.mul_le_mul_of_nonneg_left (by omega) (by omega)
    omega
  rw [m_periodic_spread_eq]
  by_cases h1 : P = 1
  · subst h1
    rcases Nat.eq_zero_or_pos l.length with h0 | h0
    · have hl0 := List.eq_nil_of_length_eq_zero h0
      subst hl0
      exact ⟨[], bB (bT (eT rfl) (bT (eT (by omega)) rfl)) rfl, sp_nil hm1⟩
    · exact ⟨[(0, m)], bB (bT (eT rfl) (bF (eF (by omega)) rfl)) rfl, sp_one hm1 h h0⟩
  · obtain ⟨c1, c2, c3⟩ := copies_ok h n
    have hat : ∀ i, i < l.length → 0 ≤ fr l i ∧ fr l i < tt l i ∧ tt l i ≤ P := fun i hi => h.at hi
    have hloop : loop (m_periodic_spread_L2 std m P l) (0, ([] : List Sp)) = some (copies P l n) := by
      rcases Nat.eq_zero_or_pos l.length with h0 | h0
      · have hl0 := List.eq_nil_of_length_eq_zero h0
        subst hl0
        rw [copies_nil]
        have hh := loop_to' (B := m_periodic_spread_L2 std m P []) (n := 0) (fun _ => ((0 : Int), ([] : List Sp))) (e := ([] : List Sp)) (by omega) (fun i hi => by omega) (by
          rw [m_periodic_spread_L2_eq]
          exact bB (v := false) (bT (dT (by omega)) (congrArg some (dF (by simp)))) (bF rfl rfl))
        exact hh
      · have hn2 : n ≤ 2000 := by
          have : n * 1 ≤ n * l.length := Nat.mul_le_mul_left n h0
          omega
        have hh := loop_to' (B := m_periodic_spread_L2 std m P l) (n := n) (fun t => (P * (t : Int), copies P l t)) (e := copies P l n) (by omega) (fun t ht => by
          have hPt : P * (t : Int) + P ≤ m := by
            have : P * ((t : Int) + 1) ≤ P * n := Int.mul_le_mul_of_nonneg_left (by omega) (by omega)
            rw [Int.mul_add] at this; omega
          have hPt0 : 0 ≤ P * (t : Int) := Int.mul_nonneg (by omega) (by omega)
          have hcl := copies_len P l t
          have htl : t * l.length ≤ n * l.length := Nat.mul_le_mul_right _ (by omega)
          have inner : loop (m_periodic_spread_L1 std (P * (t : Int)) l) (0, copies P l t) = some (copies P l (t + 1)) := by
            have hh := loop_up (B := m_periodic_spread_L1 std (P * (t : Int)) l) (n := l.length) (fun i => copies P l t ++ shL (P * (t : Int)) (l.take i)) (e := copies P l (t + 1)) (by omega) (fun i hi => by
              have := hat i hi
              rw [m_periodic_spread_L1_eq]
              simp only [Int.toNat_natCast, fr_def, tt_def]
              have hlen : (copies P l t ++ shL (P * (t : Int)) (l.take i)).length ≤ 4000 := by rw [List.length_append, shL_len, List.length_take]; omega
              refine bT (dT (by omega)) (gX (by omega) (gK hi (gI (by omega) (gI (by omega) (gR (by omega) (gR (by simp) (gI (by omega) ?_)))))))
              rw [take_succ' l hi]
              unfold shL
              rw [List.map_append, ← List.append_assoc]; rfl) (by
              rw [m_periodic_spread_L1_eq]
              refine bF (dF (by omega)) ?_
              simp only [List.take_length]; rfl)
            have e0 : copies P l t ++ shL (P * (t : Int)) (l.take 0) = copies P l t := by simp [shL]
            rw [e0] at hh
            exact hh
          rw [m_periodic_spread_L2_eq]
          refine bB (v := true) (bT (dT (by omega)) (congrArg some (dT (by omega)))) (bT rfl (bB inner (gI (by omega) ?_)))
          rw [show P * (t : Int) + P = P * ((t + 1 : Nat) : Int) by rw [Int.natCast_add, Int.mul_add]; omega]) (by
          rw [m_periodic_spread_L2_eq]
          exact bB (v := false) (bF (dF (by omega)) rfl) (bF rfl rfl))
        have e0 : (P * ((0 : Nat) : Int), copies P l 0) = ((0 : Int), ([] : List Sp)) := by simp [copies]
        rw [e0] at hh
        exact hh
    have hb : BndL (copies P l n) := fun s hs => by have := c1 s hs; omega
    have hcl := copies_len P l n
    obtain ⟨j1, j2, j3⟩ := joined_ok hb fun s hs => (c1 s hs).1
    have hmem : ∀ x, Mem (joinL (sortSp (copies P l n))) x ↔ 0 ≤ x ∧ x < m ∧ PS P l x := fun x => by rw [j2, c3, ← hm]
    refine ⟨joinL (sortSp (copies P l n)), bB (bF (eF h1) rfl) (bB hloop (bB (p_sortSp hb (by omega)) (bB (p_periodic_spread_L3 _ (by rw [sortSp_len]; omega)) rfl))), std_of_mem hm1 j1 fun x hx => ?_, hmem, by omega⟩
    have := (hmem x).1 hx
    exact ⟨this.1, this.2.1⟩
theorem p_ref13_Spread : ∃ r, m_ref13_Spread std P m l = some r ∧ IsSp P m l r := by
  have hP := h.p1
  have hPm : n ≠ 0 := by rintro rfl; rw [Int.natCast_zero, Int.mul_zero] at hm; omega
  have hPle : P ≤ m := by
    have : P * 1 ≤ P * n := Int.mul_le_mul_of_nonneg_left (by omega) (by omega)
    omega
  rw [m_ref13_Spread_eq]
  rcases Nat.eq_zero_or_pos l.length with h0 | h0
  · have hl0 := List.eq_nil_of_length_eq_zero h0
    subst hl0
    exact ⟨[], bT (eT (by simp)) rfl, sp_nil hm1⟩
  · by_cases h1 : P = 1
    · subst h1
      exact ⟨[(0, m)], bF (eF (by omega)) (bT (eT rfl) rfl), sp_one hm1 h h0⟩
    · obtain ⟨c1, c2, c3⟩ := copies_ok h n
      have hat : ∀ i, i < l.length → 0 ≤ fr l i ∧ fr l i < tt l i ∧ tt l i ≤ P := fun i hi => h.at hi
      have hn2 : n ≤ 2000 := by
        have : n * 1 ≤ n * l.length := Nat.mul_le_mul_left n h0
        omega
      have hloop : loop (m_ref13_Spread_L2 std m P l) (0, ([] : List Sp)) = some ((copies P l n).foldl addS []) := by
        have hh := loop_to' (B := m_ref13_Spread_L2 std m P l) (n := n) (fun t => (P * (t : Int), (copies P l t).foldl addS [])) (e := (copies P l n).foldl addS []) (by omega) (fun t ht => by
          have hPt : P * (t : Int) + P ≤ m := by
            have : P * ((t : Int) + 1) ≤ P * n := Int.mul_le_mul_of_nonneg_left (by omega) (by omega)
            rw [Int.mul_add] at this; omega
          have hPt0 : 0 ≤ P * (t : Int) := Int.mul_nonneg (by omega) (by omega)
          have hcl := copies_len P l t
          have htl : t * l.length ≤ n * l.length := Nat.mul_le_mul_right _ (by omega)
          have inner : loop (m_ref13_Spread_L1 std (P * (t : Int)) l) (0, (copies P l t).foldl addS []) = some ((copies P l (t + 1)).foldl addS []) := by
            have hh := loop_up (B := m_ref13_Spread_L1 std (P * (t : Int)) l) (n := l.length) (fun i => (copies P l t ++ shL (P * (t : Int)) (l.take i)).foldl addS []) (e := (copies P l (t + 1)).foldl addS []) (by omega) (fun i hi => by
              have := hat i hi
              have hlen := addL_len (copies P l t ++ shL (P * (t : Int)) (l.take i)) []
              rw [List.length_append, shL_len, List.length_take, List.length_nil] at hlen
              have e1 : copies P l t ++ shL (P * (t : Int)) (l.take (i + 1)) = (copies P l t ++ shL (P * (t : Int)) (l.take i)) ++ [(fr l i + P * (t : Int), tt l i + P * (t : Int))] := by
                rw [take_succ' l hi]
                unfold shL
                rw [List.map_append, List.append_assoc]; rfl
              have e2 : (copies P l t ++ shL (P * (t : Int)) (l.take (i + 1))).foldl addS [] = addS ((copies P l t ++ shL (P * (t : Int)) (l.take i)).foldl addS []) (fr l i + P * (t : Int), tt l i + P * (t : Int)) := by
                rw [e1, List.foldl_append]; rfl
              clear e1
              rw [e2, m_ref13_Spread_L1_eq]
              clear e2
              generalize (copies P l t ++ shL (P * (t : Int)) (l.take i)).foldl addS [] = acc at *
              simp only [Int.toNat_natCast]
              refine bT (dT (by omega)) (gX (by omega) (gK hi (gI (by rw [fr_def]; omega) (gI (by rw [tt_def]; omega) ?_))))
              refine (add_step acc ((List.getD l i (0, 0)).1 + P * (t : Int)) ((List.getD l i (0, 0)).2 + P * (t : Int)) (by omega) (fun l143 => grd (okI .i64 ((i : Int) + 1)) <| (some (Sum.inl ((i : Int) + 1, l143))))).trans ?_
              exact gI (by omega) rfl) (by
              rw [m_ref13_Spread_L1_eq]
              refine bF (dF (by omega)) ?_
              simp only [List.take_length]; rfl)
            have e0 : copies P l t ++ shL (P * (t : Int)) (l.take 0) = copies P l t := by simp [shL]
            rw [e0] at hh
            exact hh
          rw [m_ref13_Spread_L2_eq]
          refine bT (dT (by omega)) (bB inner (gI (by omega) ?_))
          rw [show P * (t : Int) + P = P * ((t + 1 : Nat) : Int) by rw [Int.natCast_add, Int.mul_add]; omega]) (by
          rw [m_ref13_Spread_L2_eq]
          exact bF (dF (by omega)) rfl)
        have e0 : (P * ((0 : Nat) : Int), (copies P l 0).foldl addS []) = ((0 : Int), ([] : List Sp)) := by simp [copies]
        rw [e0] at hh
        exact hh
      have hcl := copies_len P l n
      have hlen := addL_len (copies P l n) []
      rw [List.length_nil] at hlen
      obtain ⟨j1, j2⟩ := addL_ok (acc := []) Can.nil (fun s hs => (c1 s hs).1) c2 fun t ht => by cases ht
      have hmem : ∀ x, Mem ((copies P l n).foldl addS []) x ↔ 0 ≤ x ∧ x < m ∧ PS P l x := fun x => by
        rw [j2, c3, ← hm]
        exact ⟨fun h => h.elim (fun h => absurd h (mem_nil x)) id, .inr⟩
      refine ⟨_, bF (eF (by omega)) (bF (eF h1) (bB hloop rfl)), std_of_mem hm1 j1 fun x hx => ?_, hmem, by omega⟩
      have := (hmem x).1 hx
      exact ⟨this.1, this.2.1⟩
end

/-! combinations -/
/-- how often a period fits into the common one -/
def comN (a b : Int) : Nat := b.toNat / Nat.gcd a.toNat b.toNat
def comM (a b : Int) : Nat := a.toNat / Nat.gcd a.toNat b.toNat
def cnt (Pa Pb : Int) (la lb : List Sp) : Nat := comN Pa Pb * la.length + comM Pa Pb * lb.length
/-- what a combination gives back -/
def IsComb (rl : Bool → Bool → Bool) (Pa Pb : Int) (la lb : List Sp) (r : Int × List Sp × Int) : Prop :=
  (¬ (VP Pa la ∧ VP Pb lb) ∧ r = (0, [], 1)) ∨ ((VP Pa la ∧ VP Pb lb) ∧ ¬ comP Pa Pb ≤ 12622780800 ∧ r = (0, [], 9)) ∨ ((VP Pa la ∧ VP Pb lb) ∧ comP Pa Pb ≤ 12622780800 ∧ 2000 < cnt Pa Pb la lb ∧ r = (0, [], 5)) ∨
  ((VP Pa la ∧ VP Pb lb) ∧ comP Pa Pb ≤ 12622780800 ∧ ¬ 2000 < cnt Pa Pb la lb ∧ ∃ l', Std (comP Pa Pb) l' ∧ (∀ x, Mem l' x ↔ 0 ≤ x ∧ x < comP Pa Pb ∧ rl (psB Pa la x) (psB Pb lb x) = true) ∧ IsNF (comP Pa Pb) l' r)
theorem IsComb.uniq {rl : Bool → Bool → Bool} {Pa Pb : Int} {la lb : List Sp} {r r' : Int × List Sp × Int} (h : IsComb rl Pa Pb la lb r) (h' : IsComb rl Pa Pb la lb r') : r = r' := by
  rcases h with ⟨a, e⟩ | ⟨a, b, e⟩ | ⟨a, b, c, e⟩ | ⟨a, b, c, l1, e1, e2, e3⟩ <;> rcases h' with ⟨a', e'⟩ | ⟨a', b', e'⟩ | ⟨a', b', c', e'⟩ | ⟨a', b', c', l1', e1', e2', e3'⟩
  all_goals first
    | exact absurd a' a
    | exact absurd a a'
    | exact absurd b' b
    | exact absurd b b'
    | exact absurd c' c
    | exact absurd c c'
    | (rw [e, e'])
    | exact e3.same e3' e1 e1' fun x => by rw [e2, e2']
theorem com_facts {Pa Pb : Int} (ha : 1 ≤ Pa) (hb : 1 ≤ Pb) : comP Pa Pb = Pa * (comN Pa Pb : Int) ∧ comP Pa Pb = Pb * (comM Pa Pb : Int) ∧ 1 ≤ comP Pa Pb ∧ Int.tdiv (comP Pa Pb) Pa = (comN Pa Pb : Int) ∧ Int.tdiv (comP Pa Pb) Pb = (comM Pa Pb : Int) ∧ (comN Pa Pb : Int) ≤ Pb ∧ (comM Pa Pb : Int) ≤ Pa := by
  obtain ⟨g, g1, hg, g2, g3, e1, e2, q1, q2, c1, c2⟩ := comP_parts ha hb
  obtain ⟨d1, d2⟩ := com_quo ha hb
  have n1 : (comN Pa Pb : Int) ≤ Pb := by
    have : comN Pa Pb ≤ Pb.toNat := Nat.div_le_self _ _
    omega
  have n2 : (comM Pa Pb : Int) ≤ Pa := by
    have : comM Pa Pb ≤ Pa.toNat := Nat.div_le_self _ _
    omega
  refine ⟨rfl, ?_, ?_, d2, d1, n1, n2⟩
  · rw [c2, Int.mul_comm]; unfold comM; rw [hg]
  · rw [c1]
    have : Pa * 1 ≤ Pa * ((Pb.toNat / g : Nat) : Int) := Int.mul_le_mul_of_nonneg_left (by omega) (by omega)
    omega
theorem psB_of {P m : Int} {l r : List Sp} (h : IsSp P m l r) {x : Int} (h1 : 0 ≤ x) (h2 : x < m) : memB r x = psB P l x := by
  rw [Bool.eq_iff_iff, memB_iff, psB_iff, h.mem]
  exact ⟨fun h => h.2.2, fun h => ⟨h1, h2, h⟩⟩
theorem comb_mem {rl : Bool → Bool → Bool} (h0 : rl false false = false) {Pa Pb m : Int} {la lb ra rb r : List Sp} (ha : IsSp Pa m la ra) (hb : IsSp Pb m lb rb) (hr : ∀ x, Mem r x ↔ R2 rl ra rb x = true) (x : Int) :
    Mem r x ↔ 0 ≤ x ∧ x < m ∧ rl (psB Pa la x) (psB Pb lb x) = true := by
  rw [hr]
  unfold R2
  by_cases hx : 0 ≤ x ∧ x < m
  · rw [psB_of ha hx.1 hx.2, psB_of hb hx.1 hx.2]
    exact ⟨fun h => ⟨hx.1, hx.2, h⟩, fun h => h.2.2⟩
  · have f : ∀ {P : Int} {l r : List Sp}, IsSp P m l r → memB r x = false := fun h => memB_false.2 fun hm => hx ⟨((h.mem x).1 hm).1, ((h.mem x).1 hm).2.1⟩
    rw [f ha, f hb, h0]
    exact ⟨(fun h => by cases h), fun h => absurd ⟨h.1, h.2.1⟩ hx⟩
theorem mul_bd {n : Nat} {k : Nat} (hn : (n : Int) ≤ 12622780800) (hk : k ≤ 2000) : ((n * k : Nat) : Int) ≤ 25245561600000 := by
  have : n * k ≤ 12622780800 * 2000 := Nat.mul_le_mul (by omega) hk
  omega
theorem p_periodic_both (Pa Pb : Int) (la lb : List Sp) : ∃ r, m_periodic_both std Pa Pb la lb = some r ∧ IsComb rOr Pa Pb la lb r := by
  rw [m_periodic_both_eq, p_periodic_Valid, p_periodic_Valid]
  by_cases hv : VP Pa la ∧ VP Pb lb
  · obtain ⟨va, vb⟩ := hv
    have a1 := va.p1
    have a2 := va.p2
    have b1 := vb.p1
    have b2 := vb.p2
    have hpre : (Option.bind (some (pvB Pa la)) fun b11 => bif (!b11) then (some true) else Option.bind (some (pvB Pb lb)) fun b12 => (some (!b12)) : Option Bool) = some false := by rw [pvB_t va, pvB_t vb]; rfl
    obtain ⟨f1, f2, f3, f4, f5, f6, f7⟩ := com_facts a1 b1
    have hla := va.n2
    have hlb := vb.n2
    have m1 := mul_bd (n := comN Pa Pb) (k := la.length) (by omega) hla
    have m2 := mul_bd (n := comM Pa Pb) (k := lb.length) (by omega) hlb
    by_cases hc : comP Pa Pb ≤ 12622780800
    · have hf : fits (comP Pa Pb) = true := by simp only [fits, Bool.and_eq_true, decide_eq_true_eq]; omega
      by_cases hn : 2000 < cnt Pa Pb la lb
      · refine ⟨(0, [], 5), bB hpre (bF rfl (bB (p_integer_Lcm a1 a2 b1 b2) ?_)), .inr (.inr (.inl ⟨⟨va, vb⟩, hc, hn, rfl⟩))⟩
        rw [hf]
        refine bB (v := false) (bF (nF (eT rfl)) (congrArg some (dF (show ¬ 12622780800 < comP Pa Pb by omega)))) (bF rfl ?_)
        show grd (okNz Pa) _ = _
        rw [f4, f5]
        rw [← Int.natCast_mul, ← Int.natCast_mul]
        unfold cnt at hn
        exact gZ (by omega) (gI (by omega) (gI (by omega) (gZ (by omega) (gI (by omega) (gI (by omega) (gI (by omega) (bT (dT (by omega)) rfl)))))))
      · obtain ⟨ra, e1, s1⟩ := p_periodic_spread va.toStd f1 f3 hc (by unfold cnt at hn; omega) hla
        obtain ⟨rb, e2, s2⟩ := p_periodic_spread vb.toStd f2 f3 hc (by unfold cnt at hn; omega) hlb
        obtain ⟨r0, e3, c1, c2, c3⟩ := p_periodic_combine s1.std.can s2.std.can (by have := s1.n2; omega) (by have := s2.n2; omega)
        have hmem := comb_mem (rl := rOr) rfl s1 s2 c2
        have hs := std_of_mem f3 c1 fun x hx => ⟨((hmem x).1 hx).1, ((hmem x).1 hx).2.1⟩
        obtain ⟨r, e4, hr⟩ := p_periodic_limited hs hc (by have := s1.n2; have := s2.n2; omega)
        refine ⟨r, bB hpre (bF rfl (bB (p_integer_Lcm a1 a2 b1 b2) ?_)), .inr (.inr (.inr ⟨⟨va, vb⟩, hc, hn, r0, hs, hmem, hr⟩))⟩
        rw [hf]
        refine bB (v := false) (bF (nF (eT rfl)) (congrArg some (dF (show ¬ 12622780800 < comP Pa Pb by omega)))) (bF rfl ?_)
        show grd (okNz Pa) _ = _
        rw [f4, f5]
        rw [← Int.natCast_mul, ← Int.natCast_mul]
        unfold cnt at hn
        exact gZ (by omega) (gI (by omega) (gI (by omega) (gZ (by omega) (gI (by omega) (gI (by omega) (gI (by omega) (bF (dF (by omega)) (bB e1 (bB e2 (bB e3 (bB e4 rfl)))))))))))
    · refine ⟨(0, [], 9), bB hpre (bF rfl (bB (p_integer_Lcm a1 a2 b1 b2) ?_)), .inr (.inl ⟨⟨va, vb⟩, hc, rfl⟩)⟩
      cases hf : fits (comP Pa Pb) with
      | true => exact bB (v := true) (bF (nF (eT rfl)) (congrArg some (dT (show 12622780800 < comP Pa Pb by omega)))) (bT rfl rfl)
      | false => exact bB (v := true) (bT rfl rfl) (bT rfl rfl)
  · refine ⟨(0, [], 1), bB (v := true) ?_ (bT rfl rfl), .inl ⟨hv, rfl⟩⟩
    by_cases va : VP Pa la
    · have vb : ¬ VP Pb lb := fun vb => hv ⟨va, vb⟩
      rw [pvB_t va, pvB_f vb]; rfl
    · rw [pvB_f va]; rfl
theorem p_periodic_both_2 (Pa Pb : Int) (la lb : List Sp) : ∃ r, m_periodic_both_2 std Pa Pb la lb = some r ∧ IsComb rAnd Pa Pb la lb r := by
  rw [m_periodic_both_2_eq, p_periodic_Valid, p_periodic_Valid]
  by_cases hv : VP Pa la ∧ VP Pb lb
  · obtain ⟨va, vb⟩ := hv
    have a1 := va.p1
    have a2 := va.p2
    have b1 := vb.p1
    have b2 := vb.p2
    have hpre : (Option.bind (some (pvB Pa la)) fun b11 => bif (!b11) then (some true) else Option.bind (some (pvB Pb lb)) fun b12 => (some (!b12)) : Option Bool) = some false := by rw [pvB_t va, pvB_t vb]; rfl
    obtain ⟨f1, f2, f3, f4, f5, f6, f7⟩ := com_facts a1 b1
    have hla := va.n2
    have hlb := vb.n2
    have m1 := mul_bd (n := comN Pa Pb) (k := la.length) (by omega) hla
    have m2 := mul_bd (n := comM Pa Pb) (k := lb.length) (by omega) hlb
    by_cases hc : comP Pa Pb ≤ 12622780800
    · have hf : fits (comP Pa Pb) = true := by simp only [fits, Bool.and_eq_true, decide_eq_true_eq]; omega
      by_cases hn : 2000 < cnt Pa Pb la lb
      · refine ⟨(0, [], 5), bB hpre (bF rfl (bB (p_integer_Lcm a1 a2 b1 b2) ?_)), .inr (.inr (.inl ⟨⟨va, vb⟩, hc, hn, rfl⟩))⟩
        rw [hf]
        refine bB (v := false) (bF (nF (eT rfl)) (congrArg some (dF (show ¬ 12622780800 < comP Pa Pb by omega)))) (bF rfl ?_)
        show grd (okNz Pa) _ = _
        rw [f4, f5]
        rw [← Int.natCast_mul, ← Int.natCast_mul]
        unfold cnt at hn
        exact gZ (by omega) (gI (by omega) (gI (by omega) (gZ (by omega) (gI (by omega) (gI (by omega) (gI (by omega) (bT (dT (by omega)) rfl)))))))
      · obtain ⟨ra, e1, s1⟩ := p_periodic_spread va.toStd f1 f3 hc (by unfold cnt at hn; omega) hla
        obtain ⟨rb, e2, s2⟩ := p_periodic_spread vb.toStd f2 f3 hc (by unfold cnt at hn; omega) hlb
        obtain ⟨r0, e3, c1, c2, c3⟩ := p_periodic_combine_2 s1.std.can s2.std.can (by have := s1.n2; omega) (by have := s2.n2; omega)
        have hmem := comb_mem (rl := rAnd) rfl s1 s2 c2
        have hs := std_of_mem f3 c1 fun x hx => ⟨((hmem x).1 hx).1, ((hmem x).1 hx).2.1⟩
        obtain ⟨r, e4, hr⟩ := p_periodic_limited hs hc (by have := s1.n2; have := s2.n2; omega)
        refine ⟨r, bB hpre (bF rfl (bB (p_integer_Lcm a1 a2 b1 b2) ?_)), .inr (.inr (.inr ⟨⟨va, vb⟩, hc, hn, r0, hs, hmem, hr⟩))⟩
        rw [hf]
        refine bB (v := false) (bF (nF (eT rfl)) (congrArg some (dF (show ¬ 12622780800 < comP Pa Pb by omega)))) (bF rfl ?_)
        show grd (okNz Pa) _ = _
        rw [f4, f5]
        rw [← Int.natCast_mul, ← Int.natCast_mul]
        unfold cnt at hn
        exact gZ (by omega) (gI (by omega) (gI (by omega) (gZ (by omega) (gI (by omega) (gI (by omega) (gI (by omega) (bF (dF (by omega)) (bB e1 (bB e2 (bB e3 (bB e4 rfl)))))))))))
    · refine ⟨(0, [], 9), bB hpre (bF rfl (bB (p_integer_Lcm a1 a2 b1 b2) ?_)), .inr (.inl ⟨⟨va, vb⟩, hc, rfl⟩)⟩
      cases hf : fits (comP Pa Pb) with
      | true => exact bB (v := true) (bF (nF (eT rfl)) (congrArg some (dT (show 12622780800 < comP Pa Pb by omega)))) (bT rfl rfl)
      | false => exact bB (v := true) (bT rfl rfl) (bT rfl rfl)
  · refine ⟨(0, [], 1), bB (v := true) ?_ (bT rfl rfl), .inl ⟨hv, rfl⟩⟩
    by_cases va : VP Pa la
    · have vb : ¬ VP Pb lb := fun vb => hv ⟨va, vb⟩
      rw [pvB_t va, pvB_f vb]; rfl
    · rw [pvB_f va]; rfl
theorem p_periodic_both_3 (Pa Pb : Int) (la lb : List Sp) : ∃ r, m_periodic_both_3 std Pa Pb la lb = some r ∧ IsComb rSub Pa Pb la lb r := by
  rw [m_periodic_both_3_eq, p_periodic_Valid, p_periodic_Valid]
  by_cases hv : VP Pa la ∧ VP Pb lb
  · obtain ⟨va, vb⟩ := hv
    have a1 := va.p1
    have a2 := va.p2
    have b1 := vb.p1
    have b2 := vb.p2
    have hpre : (Option.bind (some (pvB Pa la)) fun b11 => bif (!b11) then (some true) else Option.bind (some (pvB Pb lb)) fun b12 => (some (!b12)) : Option Bool) = some false := by rw [pvB_t va, pvB_t vb]; rfl
    obtain ⟨f1, f2, f3, f4, f5, f6, f7⟩ := com_facts a1 b1
    have hla := va.n2
    have hlb := vb.n2
    have m1 := mul_bd (n := comN Pa Pb) (k := la.length) (by omega) hla
    have m2 := mul_bd (n := comM Pa Pb) (k := lb.length) (by omega) hlb
    by_cases hc : comP Pa Pb ≤ 12622780800
    · have hf : fits (comP Pa Pb) = true := by simp only [fits, Bool.and_eq_true, decide_eq_true_eq]; omega
      by_cases hn : 2000 < cnt Pa Pb la lb
      · refine ⟨(0, [], 5), bB hpre (bF rfl (bB (p_integer_Lcm a1 a2 b1 b2) ?_)), .inr (.inr (.inl ⟨⟨va, vb⟩, hc, hn, rfl⟩))⟩
        rw [hf]
        refine bB (v := false) (bF (nF (eT rfl)) (congrArg some (dF (show ¬ 12622780800 < comP Pa Pb by omega)))) (bF rfl ?_)
        show grd (okNz Pa) _ = _
        rw [f4, f5]
        rw [← Int.natCast_mul, ← Int.natCast_mul]
        unfold cnt at hn
        exact gZ (by omega) (gI (by omega) (gI (by omega) (gZ (by omega) (gI (by omega) (gI (by omega) (gI (by omega) (bT (dT (by omega)) rfl)))))))
      · obtain ⟨ra, e1, s1⟩ := p_periodic_spread va.toStd f1 f3 hc (by unfold cnt at hn; omega) hla
        obtain ⟨rb, e2, s2⟩ := p_periodic_spread vb.toStd f2 f3 hc (by unfold cnt at hn; omega) hlb
        obtain ⟨r0, e3, c1, c2, c3⟩ := p_periodic_combine_3 s1.std.can s2.std.can (by have := s1.n2; omega) (by have := s2.n2; omega)
        have hmem := comb_mem (rl := rSub) rfl s1 s2 c2
        have hs := std_of_mem f3 c1 fun x hx => ⟨((hmem x).1 hx).1, ((hmem x).1 hx).2.1⟩
        obtain ⟨r, e4, hr⟩ := p_periodic_limited hs hc (by have := s1.n2; have := s2.n2; omega)
        refine ⟨r, bB hpre (bF rfl (bB (p_integer_Lcm a1 a2 b1 b2) ?_)), .inr (.inr (.inr ⟨⟨va, vb⟩, hc, hn, r0, hs, hmem, hr⟩))⟩
        rw [hf]
        refine bB (v := false) (bF (nF (eT rfl)) (congrArg some (dF (show ¬ 12622780800 < comP Pa Pb by omega)))) (bF rfl ?_)
        show grd (okNz Pa) _ = _
        rw [f4, f5]
        rw [← Int.natCast_mul, ← Int.natCast_mul]
        unfold cnt at hn
        exact gZ (by omega) (gI (by omega) (gI (by omega) (gZ (by omega) (gI (by omega) (gI (by omega) (gI (by omega) (bF (dF (by omega)) (bB e1 (bB e2 (bB e3 (bB e4 rfl)))))))))))
    · refine ⟨(0, [], 9), bB hpre (bF rfl (bB (p_integer_Lcm a1 a2 b1 b2) ?_)), .inr (.inl ⟨⟨va, vb⟩, hc, rfl⟩)⟩
      cases hf : fits (comP Pa Pb) with
      | true => exact bB (v := true) (bF (nF (eT rfl)) (congrArg some (dT (show 12622780800 < comP Pa Pb by omega)))) (bT rfl rfl)
      | false => exact bB (v := true) (bT rfl rfl) (bT rfl rfl)
  · refine ⟨(0, [], 1), bB (v := true) ?_ (bT rfl rfl), .inl ⟨hv, rfl⟩⟩
    by_cases va : VP Pa la
    · have vb : ¬ VP Pb lb := fun vb => hv ⟨va, vb⟩
      rw [pvB_t va, pvB_f vb]; rfl
    · rw [pvB_f va]; rfl
theorem p_periodic_Union (Pa Pb : Int) (la lb : List Sp) : ∃ r, m_periodic_Union std Pa Pb la lb = some r ∧ IsComb rOr Pa Pb la lb r := by
  obtain ⟨r, e, h⟩ := p_periodic_both Pa Pb la lb
  exact ⟨r, by rw [m_periodic_Union_eq, e]; rfl, h⟩
theorem p_periodic_Meet (Pa Pb : Int) (la lb : List Sp) : ∃ r, m_periodic_Meet std Pa Pb la lb = some r ∧ IsComb rAnd Pa Pb la lb r := by
  obtain ⟨r, e, h⟩ := p_periodic_both_2 Pa Pb la lb
  exact ⟨r, by rw [m_periodic_Meet_eq, e]; rfl, h⟩
theorem p_periodic_Minus (Pa Pb : Int) (la lb : List Sp) : ∃ r, m_periodic_Minus std Pa Pb la lb = some r ∧ IsComb rSub Pa Pb la lb r := by
  obtain ⟨r, e, h⟩ := p_periodic_both_3 Pa Pb la lb
  exact ⟨r, by rw [m_periodic_Minus_eq, e]; rfl, h⟩
theorem p_ref13_Combine (kind Pa Pb : Int) (la lb : List Sp) : ∃ r, m_ref13_Combine std Pa Pb kind la lb = some r ∧ IsComb (rlK kind) Pa Pb la lb r := by
  rw [m_ref13_Combine_eq, p_ref13_Valid, p_ref13_Valid]
  by_cases hv : VP Pa la ∧ VP Pb lb
  · obtain ⟨va, vb⟩ := hv
    have a1 := va.p1
    have a2 := va.p2
    have b1 := vb.p1
    have b2 := vb.p2
    have hpre : (Option.bind (some (pvB Pa la)) fun b11 => bif (!b11) then (some true) else Option.bind (some (pvB Pb lb)) fun b12 => (some (!b12)) : Option Bool) = some false := by rw [pvB_t va, pvB_t vb]; rfl
    obtain ⟨f1, f2, f3, f4, f5, f6, f7⟩ := com_facts a1 b1
    have hla := va.n2
    have hlb := vb.n2
    have m1 := mul_bd (n := comN Pa Pb) (k := la.length) (by omega) hla
    have m2 := mul_bd (n := comM Pa Pb) (k := lb.length) (by omega) hlb
    by_cases hc : comP Pa Pb ≤ 12622780800
    · have hf : fits (comP Pa Pb) = true := by simp only [fits, Bool.and_eq_true, decide_eq_true_eq]; omega
      have hpair : m_ref13_Pair std Pa Pb la lb = some (if 2000 < cnt Pa Pb la lb then (0, 5) else (comP Pa Pb, 0)) := by
        rw [m_ref13_Pair_eq]
        refine bB (p_ref01_Lcm a1 a2 b1 b2) ?_
        rw [hf]
        refine bB (v := false) (bF (nF (eT rfl)) (congrArg some (dF (show ¬ 12622780800 < comP Pa Pb by omega)))) (bF rfl ?_)
        show grd (okNz Pa) _ = _
        rw [f4, f5]
        rw [← Int.natCast_mul, ← Int.natCast_mul]
        refine gZ (by omega) (gI (by omega) (gI (by omega) (gZ (by omega) (gI (by omega) (gI (by omega) (gI (by omega) ?_))))))
        unfold cnt
        by_cases hn : 2000 < comN Pa Pb * la.length + comM Pa Pb * lb.length
        · rw [if_pos hn]; exact bT (dT (by omega)) rfl
        · rw [if_neg hn]; exact bF (dF (by omega)) rfl
      by_cases hn : 2000 < cnt Pa Pb la lb
      · rw [if_pos hn] at hpair
        exact ⟨(0, [], 5), bB hpre (bF rfl (bB hpair (bT rfl rfl))), .inr (.inr (.inl ⟨⟨va, vb⟩, hc, hn, rfl⟩))⟩
      · rw [if_neg hn] at hpair
        obtain ⟨ra, e1, s1⟩ := p_ref13_Spread va.toStd f1 f3 hc (by unfold cnt at hn; omega) hla
        obtain ⟨rb, e2, s2⟩ := p_ref13_Spread vb.toStd f2 f3 hc (by unfold cnt at hn; omega) hlb
        obtain ⟨r0, e3, c1, c2, c3⟩ := p_ref13_Lists (kind := kind) s1.std.can s2.std.can (by have := s1.n2; omega) (by have := s2.n2; omega)
        have hmem := comb_mem (rlK_ff kind) s1 s2 c2
        have hs := std_of_mem f3 c1 fun x hx => ⟨((hmem x).1 hx).1, ((hmem x).1 hx).2.1⟩
        obtain ⟨d, hb, e4⟩ := p_ref13_Least hs hc (by have := s1.n2; have := s2.n2; omega)
        refine ⟨if 2000 < (cutTo d r0).length then (0, [], 5) else (d, cutTo d r0, 0), bB hpre (bF rfl (bB hpair (bF rfl ?_))), .inr (.inr (.inr ⟨⟨va, vb⟩, hc, hn, r0, hs, hmem, d, hb, rfl⟩))⟩
        by_cases hcc : 2000 < (cutTo d r0).length
        · rw [if_pos hcc]
          exact bB (v := .inl (5, 0)) (bB e1 (bB e2 (bB e3 (bB e4 (bB (p_ref13_limited d (cutTo d r0)) (by rw [if_pos hcc])))))) rfl
        · rw [if_neg hcc]
          exact bB (v := .inr (0, d, cutTo d r0)) (bB e1 (bB e2 (bB e3 (bB e4 (bB (p_ref13_limited d (cutTo d r0)) (by rw [if_neg hcc])))))) rfl
    · have hpair : m_ref13_Pair std Pa Pb la lb = some (0, 9) := by
        rw [m_ref13_Pair_eq]
        refine bB (p_ref01_Lcm a1 a2 b1 b2) ?_
        cases hf : fits (comP Pa Pb) with
        | true => exact bB (v := true) (bF (nF (eT rfl)) (congrArg some (dT (show 12622780800 < comP Pa Pb by omega)))) (bT rfl rfl)
        | false => exact bB (v := true) (bT rfl rfl) (bT rfl rfl)
      exact ⟨(0, [], 9), bB hpre (bF rfl (bB hpair (bT rfl rfl))), .inr (.inl ⟨⟨va, vb⟩, hc, rfl⟩)⟩
  · refine ⟨(0, [], 1), bB (v := true) ?_ (bT rfl rfl), .inl ⟨hv, rfl⟩⟩
    by_cases va : VP Pa la
    · have vb : ¬ VP Pb lb := fun vb => hv ⟨va, vb⟩
      rw [pvB_t va, pvB_f vb]; rfl
    · rw [pvB_f va]; rfl
end
section
/-! the search -/
theorem p_periodic_has_1 (a b r : Int) : m_periodic_has_1 std a b r = some (if b ≤ r then -1 else 1) := by
  rw [m_periodic_has_1_eq]
  by_cases h : b ≤ r
  · rw [if_pos h]; exact bT (dT h) rfl
  · rw [if_neg h]; exact bF (dF h) rfl
theorem p_slices_BinarySearchFunc {l : List Sp} (h : Can l) (hl : l.length ≤ 1000000) (r : Int) : ∃ (i : Nat) (b : Bool), m_slices_BinarySearchFunc std r l = some ((i : Int), b) ∧ i ≤ l.length ∧ (∀ k, k < i → tt l k ≤ r) ∧ (i < l.length → r < tt l i) := by
  have hloop := loop_is (B := m_slices_BinarySearchFunc_L1 std r l) (y := (0, ((l.length : Nat) : Int))) (fun y => ∃ i j : Nat, y.1 = (i : Int) ∧ y.2 = (j : Int) ∧ i ≤ j ∧ j ≤ l.length ∧ (∀ k, k < i → tt l k ≤ r) ∧ ∀ k, j ≤ k → k < l.length → r < tt l k)
    (fun y => (y.2 - y.1).toNat) (fun e => ∃ i : Nat, e = (i : Int) ∧ i ≤ l.length ∧ (∀ k, k < i → tt l k ≤ r) ∧ ∀ k, i ≤ k → k < l.length → r < tt l k)
    ⟨0, l.length, rfl, rfl, by omega, by omega, fun k hk => by omega, fun k h1 h2 => by omega⟩ (by simp only []; omega) (by
      rintro ⟨x, z⟩ ⟨i, j, h1, h2, hij, hj, ha, hb⟩
      change x = (i : Int) at h1
      change z = (j : Int) at h2
      subst h1; subst h2
      have e1 : ((i : Int) + (j : Int)) / 2 ^ (Int.toNat 1) = (((i + j) / 2 : Nat) : Int) := by
        show ((i : Int) + (j : Int)) / 2 = _
        rw [← Int.natCast_add]; exact (Int.natCast_ediv (i + j) 2).symm
      rw [m_slices_BinarySearchFunc_L1_eq, e1]
      simp only [Int.toNat_natCast, fr_def, tt_def]
      rw [p_periodic_has_1]
      by_cases hlt : i < j
      · have hm1 : i ≤ (i + j) / 2 := by omega
        have hm2 : (i + j) / 2 < j := by omega
        obtain ⟨m, hm⟩ : ∃ m, (i + j) / 2 = m := ⟨_, rfl⟩
        rw [hm] at hm1 hm2 ⊢
        by_cases hc : tt l m ≤ r
        · rw [if_pos hc]
          refine ⟨.inl (((m + 1 : Nat) : Int), (j : Int)), ?_, ⟨m + 1, j, rfl, rfl, by omega, hj, fun k hk => ?_, hb⟩, by simp only []; omega⟩
          · exact bT (dT (by omega)) (gI (by omega) (gU (by omega) (gX (by omega) (gI (by omega) (gX (by omega) (gK (by omega) (bB rfl (bB (bT rfl (gI (by omega) rfl)) rfl))))))))
          · have := (h.mono (show k ≤ m by omega) (by omega)).2
            omega
        · rw [if_neg hc]
          refine ⟨.inl ((i : Int), (m : Int)), ?_, ⟨i, m, rfl, rfl, by omega, by omega, ha, fun k h1 h2 => ?_⟩, by simp only []; omega⟩
          · exact bT (dT (by omega)) (gI (by omega) (gU (by omega) (gX (by omega) (gI (by omega) (gX (by omega) (gK (by omega) (bB rfl (bB (bF rfl rfl) rfl))))))))
          · have := (h.mono h1 h2).2
            omega
      · exact ⟨.inr (i : Int), bF (dF (by omega)) rfl, i, rfl, by omega, ha, fun k h1 h2 => hb k (by omega) h2⟩)
  obtain ⟨e, he, i, rfl, h1, h2, h3⟩ := hloop
  rw [m_slices_BinarySearchFunc_eq, he]
  by_cases hlt : i < l.length
  · refine ⟨i, (if tt l i ≤ r then (-1 : Int) else 1) == 0, bB rfl (bB (bT (dT (by omega)) (gX (by omega) (gK (by omega) ?_))) rfl), h1, h2, fun h => h3 i (Nat.le_refl _) h⟩
    simp only [Int.toNat_natCast, fr_def, tt_def]
    exact bB (p_periodic_has_1 _ _ _) rfl
  · exact ⟨i, false, bB rfl (bB (bF (dF (by omega)) rfl) rfl), h1, h2, fun h => absurd h hlt⟩

/-! membership -/
theorem p_periodic_has {P x : Int} {l : List Sp} (h : Std P l) (hP2 : P ≤ 12622780800) (hl : l.length ≤ 2000) (hx1 : -9223372036854775808 ≤ x) (hx2 : x ≤ 9223372036854775807) : m_periodic_has std P x l = some (psB P l x) := by
  obtain ⟨i, b, e, h1, h2, h3⟩ := p_slices_BinarySearchFunc h.can (by omega) (x % P)
  rw [m_periodic_has_eq, p_integer_Mod _ _ hx1 hx2 h.p1 (by omega)]
  refine bB rfl (bB e (bB (v := psB P l x) ?_ rfl))
  unfold psB
  rw [at_mem h.can h2 h3]
  by_cases hi : i < l.length
  · rw [dT hi]
    refine bT (dT (by omega)) (gX (by omega) (gK (by omega) ?_))
    simp only [Int.toNat_natCast, fr_def]; rfl
  · rw [dF hi]
    exact bF (dF (by omega)) rfl
theorem p_periodic_Has (P x : Int) (l : List Sp) (hx1 : -9223372036854775808 ≤ x) (hx2 : x ≤ 9223372036854775807) : m_periodic_Has std P x l = some (pvB P l && psB P l x) := by
  rw [m_periodic_Has_eq, p_periodic_Valid]
  refine bB (v := pvB P l && psB P l x) (bB rfl ?_) rfl
  cases hv : pvB P l with
  | false => rfl
  | true =>
    have v := pvB_iff.1 hv
    exact bT rfl (bB (p_periodic_has v.toStd v.p2 v.n2 hx1 hx2) rfl)
theorem p_periodic_Equal (Pa Pb : Int) (la lb : List Sp) : m_periodic_Equal std Pa Pb la lb = some (pvB Pa la && (pvB Pb lb && ((Pa == Pb) && decide (la = lb)))) := by
  rw [m_periodic_Equal_eq, p_periodic_Valid, p_periodic_Valid]
  refine bB (v := pvB Pa la && (pvB Pb lb && ((Pa == Pb) && decide (la = lb)))) (bB rfl ?_) rfl
  cases hva : pvB Pa la with
  | false => rfl
  | true =>
    have va := pvB_iff.1 hva
    refine bT rfl (bB rfl ?_)
    cases hvb : pvB Pb lb with
    | false => rfl
    | true =>
      have vb := pvB_iff.1 hvb
      refine bT rfl ?_
      cases hpe : Pa == Pb with
      | false => rfl
      | true =>
        refine bT rfl (bB (v := decide (la = lb)) ?_ rfl)
        have hin : ∀ {P : Int} {l : List Sp}, VP P l → (decide (l.length ≤ 2000) && canB l) = true := fun {P l} v => by
          rw [dT v.n2, Bool.true_and, canB_iff]
          exact ⟨v.can, fun s hs => by have := v.bd s hs; have := v.can.ne s hs; have := v.p2; omega⟩
        rw [m_runs_Equal_eq, p_runs_Valid', p_runs_Valid', hin va, hin vb]
        have := va.n2
        exact bB (v := decide (la = lb)) (bB rfl (bT rfl (bB rfl (bT rfl (bB (p_slices_Equal la lb (by omega)) rfl))))) rfl
theorem p_ref13_Equal (Pa Pb : Int) (la lb : List Sp) (ha : la.length ≤ 1000000) : m_ref13_Equal std Pa Pb la lb = some ((Pa == Pb) && decide (la = lb)) := by
  rw [m_ref13_Equal_eq]
  refine bB (v := (Pa == Pb) && decide (la = lb)) ?_ rfl
  cases hpe : Pa == Pb with
  | false => rfl
  | true => exact bT rfl (bB (p_ref13_Same la lb (by omega)) rfl)

/-! complements -/
def IsNot (P : Int) (l : List Sp) (r : Int × List Sp × Int) : Prop :=
  (¬ VP P l ∧ r = (0, [], 1)) ∨ (VP P l ∧ ∃ l', Std P l' ∧ (∀ x, Mem l' x ↔ 0 ≤ x ∧ x < P ∧ ¬ Mem l x) ∧ l'.length ≤ 2 * l.length + 2 ∧ IsNF P l' r)
theorem IsNot.uniq {P : Int} {l : List Sp} {r r' : Int × List Sp × Int} (h : IsNot P l r) (h' : IsNot P l r') : r = r' := by
  rcases h with ⟨a, e⟩ | ⟨a, l1, e1, e2, _, e3⟩ <;> rcases h' with ⟨a', e'⟩ | ⟨a', l1', e1', e2', _, e3'⟩
  all_goals first
    | exact absurd a' a
    | exact absurd a a'
    | (rw [e, e'])
    | exact e3.same e3' e1 e1' fun x => by rw [e2, e2']
theorem full_can {P : Int} (hP : 1 ≤ P) : Can [((0 : Int), P)] := Can.one (by show (0 : Int) < P; omega)
theorem not_mem {P : Int} {l r : List Sp} (hr : ∀ x, Mem r x ↔ R2 rSub [((0 : Int), P)] l x = true) (x : Int) : Mem r x ↔ 0 ≤ x ∧ x < P ∧ ¬ Mem l x := by
  rw [hr]
  show (memB _ x && !memB _ x) = true ↔ _
  rw [Bool.and_eq_true, memB_iff, mem_one, Bool.not_eq_true', memB_false]
  exact and_assoc
theorem p_periodic_Not (P : Int) (l : List Sp) : ∃ r, m_periodic_Not std P l = some r ∧ IsNot P l r := by
  rw [m_periodic_Not_eq, p_periodic_Valid]
  by_cases hv : VP P l
  · have hP := hv.p1
    have hn := hv.n2
    obtain ⟨r0, e3, c1, c2, c3⟩ := p_periodic_combine_4 (full_can hP) hv.can (by simp) (by omega)
    have hmem := not_mem c2
    have hs := std_of_mem hP c1 fun x hx => ⟨((hmem x).1 hx).1, ((hmem x).1 hx).2.1⟩
    simp at c3
    obtain ⟨r, e4, hr⟩ := p_periodic_limited hs hv.p2 (by omega)
    refine ⟨r, ?_, .inr ⟨hv, r0, hs, hmem, by omega, hr⟩⟩
    rw [pvB_t hv]
    exact bB rfl (bF rfl (bB e3 (bB e4 rfl)))
  · refine ⟨(0, [], 1), ?_, .inl ⟨hv, rfl⟩⟩
    rw [pvB_f hv]; rfl
theorem p_ref13_Not (P : Int) (l : List Sp) : ∃ r, m_ref13_Not std P l = some r ∧ IsNot P l r := by
  rw [m_ref13_Not_eq, p_ref13_Valid]
  by_cases hv : VP P l
  · have hP := hv.p1
    have hn := hv.n2
    obtain ⟨r0, e3, c1, c2, c3⟩ := p_ref13_Lists (kind := 2) (full_can hP) hv.can (by simp) (by omega)
    have hmem := not_mem c2
    have hs := std_of_mem hP c1 fun x hx => ⟨((hmem x).1 hx).1, ((hmem x).1 hx).2.1⟩
    simp at c3
    obtain ⟨d, hb, e4⟩ := p_ref13_Least hs hv.p2 (by omega)
    refine ⟨if 2000 < (cutTo d r0).length then (0, [], 5) else (d, cutTo d r0, 0), ?_, .inr ⟨hv, r0, hs, hmem, by omega, d, hb, rfl⟩⟩
    rw [pvB_t hv]
    refine bB rfl (bF rfl ?_)
    by_cases hcc : 2000 < (cutTo d r0).length
    · rw [if_pos hcc]
      exact bB (v := .inl (5, 0)) (bB e3 (bB e4 (bB (p_ref13_limited d (cutTo d r0)) (by rw [if_pos hcc])))) rfl
    · rw [if_neg hcc]
      exact bB (v := .inr (0, d, cutTo d r0)) (bB e3 (bB e4 (bB (p_ref13_limited d (cutTo d r0)) (by rw [if_neg hcc])))) rfl
  · refine ⟨(0, [], 1), ?_, .inl ⟨hv, rfl⟩⟩
    rw [pvB_f hv]; rfl

/-! movement -/
def IsMv (P n : Int) (l : List Sp) (r : Int × List Sp × Int) : Prop :=
  (¬ VP P l ∧ r = (0, [], 1)) ∨ (VP P l ∧ ¬ (-4398046511104 ≤ n ∧ n ≤ 4398046511104) ∧ r = (0, [], 2)) ∨
  (VP P l ∧ (-4398046511104 ≤ n ∧ n ≤ 4398046511104) ∧ ∃ l', Std P l' ∧ (∀ x, Mem l' x ↔ 0 ≤ x ∧ x < P ∧ PS P l (x - n)) ∧ l'.length ≤ 4 * l.length + 1 ∧ r = if 2000 < l'.length then (0, [], 5) else (P, l', 0))
theorem IsMv.uniq {P n : Int} {l : List Sp} {r r' : Int × List Sp × Int} (h : IsMv P n l r) (h' : IsMv P n l r') : r = r' := by
  rcases h with ⟨a, e⟩ | ⟨a, b, e⟩ | ⟨a, b, l1, e1, e2, _, e⟩ <;> rcases h' with ⟨a', e'⟩ | ⟨a', b', e'⟩ | ⟨a', b', l1', e1', e2', _, e'⟩
  all_goals first
    | exact absurd a' a
    | exact absurd a a'
    | exact absurd b' b
    | exact absurd b b'
    | skip
  · rw [e, e']
  · rw [e, e']
  · have := can_unique e1.can e1'.can fun x => by rw [e2, e2']
    subst this
    rw [e, e']
theorem PS_mod {P : Int} {l : List Sp} (x : Int) : PS P l (x % P) ↔ PS P l x := by
  have h3 := Int.emod_add_mul_ediv x P
  have := PS_per (P := P) (l := l) (x % P) (x / P)
  rw [h3] at this
  exact this.symm
/-- the moved set -/
theorem mv_PS {P n : Int} {l l' : List Sp} (hP : 1 ≤ P) (hm : ∀ x, Mem l' x ↔ 0 ≤ x ∧ x < P ∧ PS P l (x - n)) (x : Int) : PS P l' x ↔ PS P l (x - n) := by
  have h1 := Int.emod_nonneg x (show P ≠ 0 by omega)
  have h2 := Int.emod_lt_of_pos x (show 0 < P by omega)
  have h3 := Int.emod_add_mul_ediv x P
  unfold PS
  rw [hm]
  have e : x - n = (x % P - n) + P * (x / P) := by omega
  have := PS_per (P := P) (l := l) (x % P - n) (x / P)
  rw [← e] at this
  exact ⟨fun h => this.2 h.2.2, fun h => ⟨h1, h2, this.1 h⟩⟩
theorem mv_best {P n : Int} {l l' : List Sp} (hP : 1 ≤ P) (hb : Best P l P) (hm : ∀ x, Mem l' x ↔ 0 ≤ x ∧ x < P ∧ PS P l (x - n)) : Best P l' P :=
  ⟨hP, Int.dvd_refl P, InvQ.self _ _, fun q h1 h2 h3 => hb.le q h1 h2 fun x => by
    have := h3 (x + n)
    rw [mv_PS hP hm, mv_PS hP hm, show x + n + q - n = x + q by omega, Int.add_sub_cancel] at this
    exact this⟩
theorem cutTo_self {P : Int} {l : List Sp} (h : Std P l) : cutTo P l = l := by
  refine can_unique (cutTo_can h.can) h.can fun x => ?_
  rw [cutTo_mem]
  exact ⟨fun h => h.1, fun hx => ⟨hx, (h.mem hx).2⟩⟩
theorem p_mv_loop {P m : Int} {l : List Sp} (h : Std P l) (hP2 : P ≤ 12622780800) (hl : l.length ≤ 2000) (h0 : 0 ≤ m) (h1 : m < P) : loop (m_periodic_Move_L1 std m l) (0, ([] : List Sp)) = some (l.map fun s => (s.1 + m, s.2 + m)) := by
  have hh := loop_up (B := m_periodic_Move_L1 std m l) (n := l.length) (fun i => (l.take i).map fun s => (s.1 + m, s.2 + m)) (e := l.map fun s => (s.1 + m, s.2 + m)) (by omega) (fun i hi => by
    have := h.at hi
    have hlen : ((l.take i).map fun s : Sp => (s.1 + m, s.2 + m)).length ≤ 2000 := by rw [List.length_map, List.length_take]; omega
    rw [take_succ' l hi, List.map_append, m_periodic_Move_L1_eq]
    generalize ((l.take i).map fun s : Sp => (s.1 + m, s.2 + m)) = acc at *
    simp only [Int.toNat_natCast, fr_def, tt_def]
    exact bT (dT (by omega)) (gX (by omega) (gK hi (gI (by omega) (gI (by omega) (gR (by omega) (gR (by simp) (gI (by omega) rfl)))))))) (by
    rw [m_periodic_Move_L1_eq]
    refine bF (dF (by omega)) ?_
    simp only [List.take_length])
  exact hh
theorem p_periodic_Move (P n : Int) (l : List Sp) : ∃ r, m_periodic_Move std P n l = some r ∧ IsMv P n l r := by
  rw [m_periodic_Move_eq, p_periodic_Valid]
  by_cases hv : VP P l
  · have hP := hv.p1
    have hP2 := hv.p2
    have hn := hv.n2
    rw [pvB_t hv]
    by_cases hr : -4398046511104 ≤ n ∧ n ≤ 4398046511104
    · have a1 := Int.emod_nonneg n (show P ≠ 0 by omega)
      have a2 := Int.emod_lt_of_pos n (show 0 < P by omega)
      obtain ⟨l', e1, s1, s2, s3⟩ := p_periodic_fold (P := P) (l := l.map fun s => (s.1 + n % P, s.2 + n % P)) hP hv.p2 (by rw [List.length_map]; omega) (fun s hs => by
        obtain ⟨u, hu, rfl⟩ := List.mem_map.1 hs
        have := hv.bd u hu
        have := hv.can.ne u hu
        exact ⟨by show u.1 + _ < u.2 + _; omega, by show _ ≤ u.1 + _; omega, by show u.2 + _ ≤ _; omega⟩)
      rw [List.length_map] at s3
      have hm : ∀ x, Mem l' x ↔ 0 ≤ x ∧ x < P ∧ PS P l (x - n) := fun x => by
        rw [s2]
        have key : 0 ≤ x → x < P → (MemF P (l.map fun s => (s.1 + n % P, s.2 + n % P)) x ↔ PS P l (x - n)) := fun h1 h2 => by
          rw [MemF_move hv.toStd (n % P) h1 h2, ← PS_mod (x - n % P), ← PS_mod (x - n), Int.sub_emod_emod]
        constructor
        · intro h
          have hb := MemF_bd hP h
          exact ⟨hb.1, hb.2, (key hb.1 hb.2).1 h⟩
        · rintro ⟨h1, h2, h3⟩
          exact (key h1 h2).2 h3
      obtain ⟨r, e2, d, hb, rfl⟩ := p_periodic_limited s1 hv.p2 (by omega)
      have hd : d = P := hb.uniq (mv_best hP hv.best hm)
      subst hd
      rw [cutTo_self s1] at e2
      refine ⟨_, bB rfl (bF rfl (bB (v := false) (bF (dF (by omega)) (congrArg some (dF (by omega)))) (bF rfl (bB (p_integer_Mod _ _ (by omega) (by omega) hP (by omega)) (bB (p_mv_loop hv.toStd hv.p2 hn a1 a2) (bB e1 (bB e2 rfl))))))), .inr (.inr ⟨hv, hr, l', s1, hm, by omega, rfl⟩)⟩
    · refine ⟨(0, [], 2), bB rfl (bF rfl (bB (v := true) ?_ (bT rfl rfl))), .inr (.inl ⟨hv, hr, rfl⟩)⟩
      by_cases h1 : n < -4398046511104
      · exact bT (dT h1) rfl
      · exact bF (dF h1) (congrArg some (dT (by omega)))
  · refine ⟨(0, [], 1), ?_, .inl ⟨hv, rfl⟩⟩
    rw [pvB_f hv]; rfl
theorem p_ref13_Move (P n : Int) (l : List Sp) : (∃ r, m_ref13_Move std P n l = some (.inl r) ∧ IsMv P n l r) ∨ (m_ref13_Move std P n l = some (.inr (P, 0)) ∧ IsMv P n l (P, l, 0)) := by
  rw [m_ref13_Move_eq, p_ref13_Valid]
  by_cases hv : VP P l
  · have hP := hv.p1
    have hP2 := hv.p2
    have hn := hv.n2
    rw [pvB_t hv]
    by_cases hr : -4398046511104 ≤ n ∧ n ≤ 4398046511104
    · have hpre : (bif (decide (n < (-4398046511104))) then (some true) else (some (decide (4398046511104 < n))) : Option Bool) = some false := bF (dF (by omega)) (congrArg some (dF (by omega)))
      rw [hpre]
      rcases p_ref13_rotated (n := n) hv.p2 (by omega) (by omega) (by omega) hv.toStd with ⟨h0, e⟩ | ⟨r, h0, e, s1, hm, hlen⟩
      · refine .inr ⟨?_, .inr (.inr ⟨hv, hr, l, hv.toStd, fun x => ?_, by omega, by rw [if_neg (by omega)]⟩)⟩
        · rw [e]
          refine bB rfl (bF rfl (bB rfl (bF rfl (bB (v := .inr (.inl (0, P))) (bB rfl (bB (p_ref13_limited P l) (by rw [if_neg (by omega)]))) rfl))))
        · rw [hv.toStd.mem_PS]
          refine and_congr_right fun _ => and_congr_right fun _ => ?_
          rw [← PS_mod (x - n), Int.sub_emod, h0, Int.sub_zero, Int.emod_emod, PS_mod]
      · refine .inl ?_
        rw [e]
        refine ⟨if 2000 < r.length then (0, [], 5) else (P, r, 0), ?_, .inr (.inr ⟨hv, hr, r, s1, hm, by omega, rfl⟩)⟩
        by_cases hcc : 2000 < r.length
        · rw [if_pos hcc]
          exact bB rfl (bF rfl (bB rfl (bF rfl (bB (v := .inl (5, 0)) (bB rfl (bB (p_ref13_limited P r) (by rw [if_pos hcc]))) rfl))))
        · rw [if_neg hcc]
          exact bB rfl (bF rfl (bB rfl (bF rfl (bB (v := .inr (.inr (0, P, r))) (bB rfl (bB (p_ref13_limited P r) (by rw [if_neg hcc]))) rfl))))
    · refine .inl ⟨(0, [], 2), bB rfl (bF rfl (bB (v := true) ?_ (bT rfl rfl))), .inr (.inl ⟨hv, hr, rfl⟩)⟩
      by_cases h1 : n < -4398046511104
      · exact bT (dT h1) rfl
      · exact bF (dF h1) (congrArg some (dT (by omega)))
  · refine .inl ⟨(0, [], 1), ?_, .inl ⟨hv, rfl⟩⟩
    rw [pvB_f hv]; rfl
end
end Go.Proofs.Ytlpbdikmhngmfaa
