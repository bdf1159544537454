/-
  Plain law: the calendar that Of makes is valid.
-/
import Derived.Test.YtnieceplfjmocaaOf
import Derived.Test.YtnieceplfjmocaaAt
namespace Go.Proofs.Ytnieceplfjmocaa
open Go.RowKit

theorem eqAt_iff {d : Int} {l : List Sp} {m i : Nat} : eqAt d l m i = true ↔ fr l (i + m) = fr l i + d ∧ tt l (i + m) = tt l i + d := by simp [eqAt]

theorem fr_take {l : List Sp} {m k : Nat} (h : k < m) : fr (l.take m) k = fr l k := by
  simp [fr, h]
theorem tt_take {l : List Sp} {m k : Nat} (h : k < m) : tt (l.take m) k = tt l k := by
  simp [tt, h]

/-- steps of m, d each -/
theorem iter_step {l : List Sp} {m n : Nat} {d : Int} (h : ∀ i, i + m < n → fr l (i + m) = fr l i + d ∧ tt l (i + m) = tt l i + d) :
    ∀ a b, b + a * m < n → fr l (b + a * m) = fr l b + a * d ∧ tt l (b + a * m) = tt l b + a * d := by
  intro a
  induction a with
  | zero => intro b _; simp
  | succ a ih =>
    intro b hb
    rw [Nat.succ_mul] at hb
    have h1 := ih b (by omega)
    have h2 := h (b + a * m) (by omega)
    have e : b + (a + 1) * m = b + a * m + m := by rw [Nat.succ_mul]; omega
    rw [e, h2.1, h2.2, h1.1, h1.2]
    have e2 : ((a + 1 : Nat) : Int) * d = a * d + d := by rw [Int.natCast_add, Int.add_mul]; simp
    rw [e2]; omega

theorem rep_spec {p : Int} {l : List Sp} {m : Nat} (h : repM p l m = true) (hm : 1 ≤ m) (hl : m ≤ l.length) :
    ∃ (q : Nat) (d : Int), l.length = q * m ∧ 1 ≤ q ∧ p = q * d ∧ p / (q : Int) = d ∧ l.length / m = q ∧ ∀ i, i + m < l.length → fr l (i + m) = fr l i + d ∧ tt l (i + m) = tt l i + d := by
  obtain ⟨h1, h2, h3⟩ := repM_parts h
  have hq : l.length = l.length / m * m := by have := Nat.div_add_mod l.length m; rw [Nat.mul_comm] at this; omega
  have hq1 : 1 ≤ l.length / m := by
    rcases Nat.eq_zero_or_pos (l.length / m) with h0 | h0
    · rw [h0] at hq; omega
    · exact h0
  refine ⟨l.length / m, p / ((l.length / m : Nat) : Int), hq, hq1, ?_, rfl, rfl, fun i hi => eqAt_iff.1 (h3 i hi)⟩
  have := Int.mul_ediv_add_emod p ((l.length / m : Nat) : Int)
  omega
theorem rep_mk {p : Int} {l : List Sp} {m : Nat} (q : Nat) (d : Int) (hm : 1 ≤ m) (hl : l.length = q * m) (hq : 1 ≤ q) (hp : p = q * d) (h : ∀ i, i + m < l.length → fr l (i + m) = fr l i + d ∧ tt l (i + m) = tt l i + d) : repM p l m = true := by
  have e : l.length / m = q := by rw [hl]; exact Nat.mul_div_cancel _ hm
  have e2 : p / (q : Int) = d := by rw [hp]; exact Int.mul_ediv_cancel_left _ (by omega)
  refine repM_t (by rw [hl]; exact Nat.mul_mod_left _ _) ?_ (fun i hi => ?_)
  · rw [e, hp]; exact Int.mul_emod_right _ _
  · rw [e, e2]; exact eqAt_iff.2 (h i (by omega))

/-- a repetition of the first part is one of the whole -/
theorem rep_trans {p : Int} {l : List Sp} {m j : Nat} (hm : 1 ≤ m) (hl : m ≤ l.length) (hr : repM p l m = true) (hj : 1 ≤ j) (hjm : j ≤ m) (hr2 : repM (p / ((l.length / m : Nat) : Int)) (l.take m) j = true) : repM p l j = true := by
  obtain ⟨q, P, hq1, hq2, hq3, hq4, hq5, hq6⟩ := rep_spec hr hm hl
  have hlt : (l.take m).length = m := by rw [List.length_take]; omega
  obtain ⟨s, d, hs1, hs2, hs3, hs4, hs5, hs6⟩ := rep_spec hr2 hj (by rw [hlt]; exact hjm)
  rw [hlt] at hs1 hs6
  rw [hq5, hq4] at hs3
  refine rep_mk (q * s) d hj (by rw [hq1, hs1, Nat.mul_assoc]) (Nat.mul_pos hq2 hs2) (by rw [hq3, hs3, Int.natCast_mul, Int.mul_assoc]) (fun i hi => ?_)
  have hit := iter_step hq6
  have his : ∀ a b, b + a * j < m → fr l (b + a * j) = fr l b + a * d ∧ tt l (b + a * j) = tt l b + a * d := by
    refine iter_step (n := m) (fun i hi => ?_)
    have := hs6 i hi
    rw [fr_take (by omega), fr_take (by omega), tt_take (by omega), tt_take (by omega)] at this
    exact this
  -- i = b + a * m
  have hb : i % m < m := Nat.mod_lt _ (by omega)
  have hi2 : i = i % m + i / m * m := by have := Nat.div_add_mod i m; rw [Nat.mul_comm] at this; omega
  generalize i % m = b at *
  generalize i / m = a at *
  subst hi2
  have h0 := hit a b (by omega)
  by_cases hbj : b + j < m
  · have h1 := hit a (b + j) (by omega)
    have h2 := his 1 b (by omega)
    rw [show b + a * m + j = b + j + a * m by omega, h1.1, h1.2, h0.1, h0.2]
    rw [Nat.one_mul] at h2
    rw [h2.1, h2.2]
    omega
  · -- b + j - m = c
    have hc : b = (b + j - m) + (s - 1) * j := by rw [Nat.sub_mul, ← hs1]; omega
    have h1 := hit (a + 1) (b + j - m) (by rw [Nat.succ_mul]; omega)
    have h2 := his (s - 1) (b + j - m) (by omega)
    rw [← hc] at h2
    rw [show b + a * m + j = b + j - m + (a + 1) * m by rw [Nat.succ_mul]; omega, h1.1, h1.2, h0.1, h0.2, h2.1, h2.2]
    have e1 : ((a + 1 : Nat) : Int) * P = a * P + P := by rw [Int.natCast_add, Int.add_mul]; simp
    have e2 : ((s - 1 : Nat) : Int) * d = s * d - d := by rw [Int.natCast_sub hs2, Int.sub_mul]; simp
    rw [e1, e2, hs3]
    omega

theorem leastN_take {p : Int} {l : List Sp} (h0 : 0 < l.length) : leastN (p / ((l.length / leastN p l : Nat) : Int)) (l.take (leastN p l)) = leastN p l := by
  obtain ⟨m1, m2, m3, m4⟩ := leastN_spec (p := p) h0
  have hlt : (l.take (leastN p l)).length = leastN p l := by rw [List.length_take]; omega
  have hself := repM_self (p := p / ((l.length / leastN p l : Nat) : Int)) (l := l.take (leastN p l)) (by omega)
  rw [hlt] at hself
  refine leastN_at m1 (by omega) hself (fun j hj hj1 => ?_)
  cases hr : repM (p / ((l.length / leastN p l : Nat) : Int)) (l.take (leastN p l)) j with
  | false => rfl
  | true =>
    have := rep_trans m1 m2 m3 hj1 (by omega) hr
    rw [m4 j hj hj1] at this
    cases this

/-- where Of succeeds -/
structure OfOkB (o p : Int) (l : List Sp) : Prop where
  p1 : 1 ≤ p
  p2 : p ≤ 12622780800
  asc : ascB l = true
  fit : tt l (l.length - 1) - fr l 0 ≤ p
  n5 : l.length ≤ 5000
  line : lineB o = true
  half : halfB (o + fr l 0) = true

theorem ofErr_zero {o p : Int} {l : List Sp} : ofErr o p l = 0 ↔ OfOkB o p l := by
  constructor
  · intro h
    unfold ofErr at h
    split at h
    · omega
    · split at h
      · omega
      · split at h
        · omega
        · rename_i h1 h2 h3
          simp only [not_or, Bool.not_eq_false] at h1 h3
          exact ⟨by omega, by omega, h1.2.2.1, by omega, by omega, h3.1, h3.2⟩
  · intro h
    have h1 := h.p1
    have h2 := h.p2
    have h3 := h.fit
    have h4 := h.n5
    unfold ofErr
    rw [if_neg (by simp [h.asc]; omega), if_neg (by omega), if_neg (by simp [h.line, h.half])]

theorem shift_asc {l : List Sp} (h : ascB l = true) {p : Int} (_hp2 : p ≤ 12622780800) (hf : tt l (l.length - 1) - fr l 0 ≤ p) {k : Nat} (hk : k < l.length) :
    0 ≤ fr (shiftL l (fr l 0)) k ∧ fr (shiftL l (fr l 0)) k < tt (shiftL l (fr l 0)) k ∧ tt (shiftL l (fr l 0)) k ≤ p ∧ (0 < k → tt (shiftL l (fr l 0)) (k - 1) ≤ fr (shiftL l (fr l 0)) k) := by
  rw [fr_shift hk, tt_shift hk]
  have h1 := asc_mono h k 0 (by omega) hk
  have h2 := asc_mono h (l.length - 1) k (by omega) (by omega)
  have h3 := asc_iv h hk
  refine ⟨by omega, by omega, by omega, fun h0 => ?_⟩
  rw [tt_shift (by omega)]
  have h5 := (ascB_iff.1 h).2 k hk
  simp only [ascAt, Bool.and_eq_true, Bool.or_eq_true, decide_eq_true_eq, beq_iff_eq] at h5
  rcases h5.2 with h6 | h6 <;> omega

theorem of_valid {o p : Int} {l : List Sp} (h : OfOkB o p l) : Vd (o + fr l 0) (ofP p l) (ofL p l) := by
  have h0 := asc_ne h.asc
  have hlen := shiftL_len l (fr l 0)
  obtain ⟨m1, m2, m3, m4⟩ := leastN_spec (p := p) (l := shiftL l (fr l 0)) (by omega)
  have hm : leastN p (shiftL l (fr l 0)) = ofM p l := rfl
  obtain ⟨q, d, hq1, hq2, hq3, hq4, hq5, hq6⟩ := rep_spec m3 m1 m2
  have hP : ofP p l = d := by
    unfold ofP
    have e : ((l.length : Int) / (ofM p l : Int)) = (q : Int) := by rw [← hq5, hlen, hm]; simp
    rw [e, hq4]
  have hL : (ofL p l).length = ofM p l := by unfold ofL; rw [List.length_take]; omega
  have hleast : leastN (ofP p l) (ofL p l) = ofM p l := by
    have := leastN_take (p := p) (l := shiftL l (fr l 0)) (by omega)
    rw [hq5, hq4] at this
    rw [hP]; exact this
  have hA := fun k (hk : k < l.length) => shift_asc h.asc h.p2 h.fit hk
  have hfr : ∀ k, k < ofM p l → fr (ofL p l) k = fr (shiftL l (fr l 0)) k := fun k hk => fr_take hk
  have htt : ∀ k, k < ofM p l → tt (ofL p l) k = tt (shiftL l (fr l 0)) k := fun k hk => tt_take hk
  have hp1 := h.p1
  have hp2 := h.p2
  have hd1 : 1 ≤ d := by
    rcases Int.lt_or_le d 1 with hd | hd
    · have : (q : Int) * d ≤ (q : Int) * 0 := Int.mul_le_mul_of_nonneg_left (by omega) (by omega)
      omega
    · exact hd
  have hd2 : d ≤ p := by
    have : 1 * d ≤ (q : Int) * d := Int.mul_le_mul_of_nonneg_right (by omega) (by omega)
    omega
  have hf0 : fr (shiftL l (fr l 0)) 0 = 0 := by rw [fr_shift h0]; omega
  have hhalf := halfB_iff.1 h.half
  rw [hlen, hm] at hq1
  rw [hm] at m1 m2
  rw [hm, hlen] at hq6
  refine ⟨by omega, by rw [hL]; have := h.n5; omega, by rw [hP]; exact hd1, by rw [hP]; omega, hhalf.1, hhalf.2, ?_, by rw [hfr 0 (by omega)]; exact hf0, ?_, by rw [hleast, hL]⟩
  · rw [ascB_iff, hL]
    refine ⟨by omega, fun j hj => ?_⟩
    have := hA j (by omega)
    simp only [ascAt, Bool.and_eq_true, Bool.or_eq_true, decide_eq_true_eq, beq_iff_eq]
    rw [hfr j hj, htt j hj]
    refine ⟨ivB_iff.2 (by omega), ?_⟩
    rcases Nat.eq_zero_or_pos j with hz | hz
    · exact .inl hz
    · right; rw [htt _ (by omega)]; exact this.2.2.2 hz
  · rw [hL, htt _ (by omega), hP]
    by_cases hq : q = 1
    · have e : d = p := by rw [hq3, hq]; simp
      have := (hA (ofM p l - 1) (by omega)).2.2.1
      omega
    · have hlt : ofM p l < l.length := by
        rw [hq1]
        have : 2 * ofM p l ≤ q * ofM p l := Nat.mul_le_mul_right _ (by omega)
        omega
      have h1 := (hq6 0 (by omega)).1
      rw [Nat.zero_add, hf0] at h1
      have h2 := (hA (ofM p l) hlt).2.2.2 (by omega)
      omega
end Go.Proofs.Ytnieceplfjmocaa
