/-
  A calendar out of a list of granules: the program's way and the reference's way are one.
-/
import Derived.Test.YtoklfjkanipjkaaPCal2
namespace Go.Proofs.Ytoklfjkanipjkaa
open Go.RowKit

/-- granules in order, of one period -/
structure PL (p : Int) (l : List Sp) : Prop where
  n0 : 0 < l.length
  n5 : l.length ≤ 5000
  p1 : 1 ≤ p
  p2 : p ≤ 12622780800
  ne : ∀ k, k < l.length → fr l k < tt l k
  up : ∀ k, k + 1 < l.length → tt l k ≤ fr l (k + 1)
  fit : tt l (l.length - 1) - fr l 0 ≤ p
  b1 : -4611686018427387904 ≤ fr l 0
  b2 : fr l 0 ≤ 4611686018427387904
theorem PL.mono {p : Int} {l : List Sp} (h : PL p l) : ∀ k j, k ≤ j → j < l.length → fr l k ≤ fr l j ∧ tt l k ≤ tt l j := by
  intro k j hkj
  induction j with
  | zero => intro _; have : k = 0 := by omega
            subst this; exact ⟨Int.le_refl _, Int.le_refl _⟩
  | succ j ih =>
    intro hj
    rcases Nat.lt_or_ge k (j + 1) with h1 | h1
    · have h2 := ih (by omega) (by omega)
      have h3 := h.ne j (by omega)
      have h4 := h.ne (j + 1) hj
      have h5 := h.up j hj
      omega
    · have : k = j + 1 := by omega
      subst this; exact ⟨Int.le_refl _, Int.le_refl _⟩
theorem PL.bd {p : Int} {l : List Sp} (h : PL p l) {k : Nat} (hk : k < l.length) : 0 ≤ fr l k - fr l 0 ∧ fr l k < tt l k ∧ tt l k - fr l 0 ≤ p := by
  have h1 := h.mono 0 k (by omega) hk
  have h2 := h.mono k (l.length - 1) (by omega) (by have := h.n0; omega)
  have h3 := h.ne k hk
  have h4 := h.fit
  omega
theorem PL.bd2 {p : Int} {l : List Sp} (h : PL p l) : Bd2 l := fun k hk => by
  have := h.bd hk
  have := h.p2
  omega
theorem PL.asc {p : Int} {l : List Sp} (h : PL p l) : ascB (shiftL l (fr l 0)) = true := by
  have hl := shiftL_len l (fr l 0)
  refine ascB_iff.2 ⟨by rw [hl]; exact h.n0, fun j hj => ?_⟩
  rw [hl] at hj
  have h1 := h.bd hj
  have h2 := h.p2
  simp only [ascAt, Bool.and_eq_true, Bool.or_eq_true, decide_eq_true_eq, beq_iff_eq]
  rw [fr_shift hj, tt_shift hj]
  refine ⟨ivB_iff.2 (by omega), ?_⟩
  rcases Nat.eq_zero_or_pos j with h0 | h0
  · exact .inl h0
  · right
    rw [tt_shift (by omega)]
    have := h.up (j - 1) (by omega)
    rw [show j - 1 + 1 = j by omega] at this
    omega
theorem PL.f0 {p : Int} {l : List Sp} (h : PL p l) : fr (shiftL l (fr l 0)) 0 = 0 := by rw [fr_shift h.n0]; omega
theorem PL.le {p : Int} {l : List Sp} (h : PL p l) : LeOk p (shiftL l (fr l 0)) := ⟨h.p1, h.p2, by rw [shiftL_len]; exact h.n0, by rw [shiftL_len]; exact h.n5, asc_bd h.asc⟩
theorem shiftL_zero (l : List Sp) : shiftL l 0 = l := by simp [shiftL]
/-- the result of both -/
def mkR (p : Int) (l : List Sp) : Int × Int × List Sp × Int := if halfB (fr l 0) then (fr l 0, ofP p l, ofL p l, 0) else (0, 0, [], 2)

theorem of_quo {p : Int} {l : List Sp} (h : PL p l) : ∃ m : Nat, leastN p (shiftL l (fr l 0)) = m ∧ 1 ≤ m ∧ m ≤ l.length ∧ 1 ≤ l.length / m ∧ l.length / m ≤ l.length ∧ ofP p l = p / ((l.length / m : Nat) : Int) ∧ ofL p l = (shiftL l (fr l 0)).take m := by
  obtain ⟨m1, m2, m3, m4⟩ := leastN_spec (p := p) (l := shiftL l (fr l 0)) (by rw [shiftL_len]; exact h.n0)
  rw [shiftL_len] at m2
  exact ⟨_, rfl, m1, m2, Nat.div_pos m2 m1, Nat.div_le_self _ _, by unfold ofP ofM; rw [Int.natCast_ediv], rfl⟩

theorem p_ref16_Make {p : Int} {l : List Sp} (h : PL p l) : m_ref16_Make std p l = some (mkR p l) := by
  have h0 := h.n0
  have h5 := h.n5
  have hp1 := h.p1
  have hp2 := h.p2
  rw [m_ref16_Make_eq]
  simp only [Int.toNat_zero, fr_def, tt_def]
  refine gX (by omega) (gK (by omega) ?_)
  unfold mkR
  by_cases c1 : fr l 0 ≤ 2199023255552
  · by_cases c2 : -2199023255552 ≤ fr l 0
    · rw [if_pos (halfB_iff.2 ⟨c2, c1⟩)]
      refine bB (v := false) (bF (dF (by omega)) (congrArg some (dF (by omega)))) (bF rfl ?_)
      refine bB (p_ref16_Make_L1 l (by omega) h.bd2) (bB (p_ref16_least h.le) ?_)
      obtain ⟨m, e1, m1, m2, q1, q2, e2, e3⟩ := of_quo h
      have hds := div_small hp1 (l.length / m)
      rw [e1, e2, e3, shiftL_len]
      have hd : Int.tdiv p ((l.length / m : Nat) : Int) = p / ((l.length / m : Nat) : Int) := by rw [Int.tdiv_eq_ediv_of_nonneg (by omega)]
      simp only [nat_tdiv, hd, Int.toNat_natCast, Nat.sub_zero, List.drop_zero]
      exact gZ (by omega) (gI (by omega) (gZ (by omega) (gI (by omega) (gG (by omega) rfl))))
    · rw [if_neg (by rw [halfB_iff]; omega)]
      exact bB (v := true) (bF (dF (by omega)) (congrArg some (dT (by omega)))) rfl
  · rw [if_neg (by rw [halfB_iff]; omega)]
    exact bB (v := true) (bT (dT (by omega)) rfl) rfl

theorem p_granule_Of {p : Int} {l : List Sp} (h : PL p l) : m_granule_Of std (fr l 0) p (shiftL l (fr l 0)) = some (mkR p l) := by
  have h0 := h.n0
  have h5 := h.n5
  have hp1 := h.p1
  have hp2 := h.p2
  have hlen := shiftL_len l (fr l 0)
  have hb := h.bd (k := l.length - 1) (by omega)
  have hf0 := h.f0
  have hb1 := h.b1
  have hb2 := h.b2
  have htt := tt_shift (l := l) (d := fr l 0) (k := l.length - 1) (by omega)
  rw [m_granule_Of_eq]
  have he : (((shiftL l (fr l 0)).length : Int) - 1).toNat = l.length - 1 := by omega
  simp only [Int.toNat_zero, fr_def, tt_def, p_granule_ascending _ (show (shiftL l (fr l 0)).length ≤ 1099511627776 by omega), h.asc, Option.bind_some, he, htt, hf0, p_granule_line, p_granule_half, Int.add_zero]
  refine bB (v := false) (bF (dF (by omega)) (bF (dF (by omega)) (bF rfl (gI (by omega) (gX (by omega) (gK (by omega) (gX (by omega) (gK (by omega) (gI (by omega) ?_))))))))) (bF rfl (bF (dF (by omega)) (gX (by omega) (gK (by omega) ?_))))
  · exact congrArg some (dF (show ¬ p < tt l (l.length - 1) - fr l 0 - 0 by omega))
  · unfold mkR
    have hline : halfB (fr l 0) = true → lineB (fr l 0) = true := fun hh => by rw [halfB_iff] at hh; rw [lineB_iff]; omega
    cases hh : halfB (fr l 0) with
    | false =>
      refine bB (v := true) ?_ rfl
      cases lineB (fr l 0) with
      | false => rfl
      | true => exact bF rfl (gI (by omega) rfl)
    | true =>
      rw [hline hh]
      refine bB (v := false) (bF rfl (gI (by omega) rfl)) (bF rfl (gI (by omega) ?_))
      have hB : Bd2 (shiftL l (fr l 0)) := fun k hk => by
        rw [hlen] at hk
        have h9 := h.bd hk
        rw [fr_shift hk, tt_shift hk, hf0]
        omega
      have hL := p_granule_Of_L1 (shiftL l (fr l 0)) (by omega) hB
      rw [hf0, shiftL_zero] at hL
      refine bB hL (bB (p_granule_least h.le) ?_)
      obtain ⟨m, e1, m1, m2, q1, q2, e2, e3⟩ := of_quo h
      have hds := div_small hp1 (l.length / m)
      rw [e1, e2, e3, hlen]
      have hd : Int.tdiv p ((l.length / m : Nat) : Int) = p / ((l.length / m : Nat) : Int) := by rw [Int.tdiv_eq_ediv_of_nonneg (by omega)]
      simp only [nat_tdiv, hd, Int.toNat_natCast, Nat.sub_zero, List.drop_zero]
      exact gZ (by omega) (gI (by omega) (gZ (by omega) (gI (by omega) (gG (by omega) (gG (by omega) rfl)))))

theorem p_group_made {p : Int} {l : List Sp} (h : PL p l) : m_group_made std p l = some (mkR p l) := by
  have h0 := h.n0
  have h5 := h.n5
  rw [m_group_made_eq]
  simp only [Int.toNat_zero, fr_def, tt_def, Int.toNat_natCast]
  refine gX (by omega) (gK (by omega) (gG (by omega) (gG (by omega) (gR (by omega) ?_))))
  have hL := p_group_made_L1 l (by omega) h.bd2
  refine bB (show loop (m_group_made_L1 std l) (0, List.replicate 0 (0, 0)) = some _ from hL) ?_
  exact bB (p_granule_Of h) rfl

/-- what it makes is valid -/
theorem mkR_ok {p : Int} {l : List Sp} (h : PL p l) (hh : halfB (fr l 0) = true) : Vd (fr l 0) (ofP p l) (ofL p l) := by
  have hlen := shiftL_len l (fr l 0)
  have h0 := h.n0
  have hf0 := h.f0
  have hof : OfOkB (fr l 0) p (shiftL l (fr l 0)) := by
    refine ⟨h.p1, h.p2, h.asc, ?_, by rw [hlen]; exact h.n5, ?_, by rw [hf0, Int.add_zero]; exact hh⟩
    · rw [hlen, tt_shift (by omega), hf0]
      have := h.fit
      omega
    · have := halfB_iff.1 hh
      exact lineB_iff.2 (by omega)
  have := of_valid hof
  rw [hf0, Int.add_zero] at this
  have e1 : ofP p (shiftL l (fr l 0)) = ofP p l := by unfold ofP ofM; rw [hf0, shiftL_zero, hlen]
  have e2 : ofL p (shiftL l (fr l 0)) = ofL p l := by unfold ofL ofM; rw [hf0, shiftL_zero]
  rwa [e1, e2] at this

/-! the law's comparison -/
theorem p_ref12_Same (l : List Sp) (hl : l.length ≤ 1099511627776) : m_ref12_Same std l l = some true := by
  rw [m_ref12_Same_eq]
  refine bF (nF (eT rfl)) (bB (v := .inr ()) ?_ rfl)
  refine loop_to' (n := l.length) (fun i => (i : Int)) (by omega) (fun i hi => ?_) ?_
  · rw [m_ref12_Same_L1_eq]
    simp only [Int.toNat_natCast]
    refine bT (dT (by omega)) (bB (v := false) (bF (nF (eT rfl)) (gX (by omega) (gK (by omega) ?_))) (bF rfl (gI (by omega) (by simp))))
    first
      | exact gX (by omega) (gK (by omega) (congrArg some (nF (eT rfl))))
      | exact congrArg some (nF (eT rfl))
  · rw [m_ref12_Same_L1_eq]; exact bF (dF (by omega)) rfl
theorem p_law16_is {x p e : Int} {l : List Sp} (hl : l.length ≤ 5000) (he : e = 0 → validB x p l = true) : m_law16_is std x p e x p e l l = some true := by
  rw [m_law16_is_eq, m_ref16_Same_eq, p_ref12_Same l (by omega), p_ref16_Valid x p l (by omega)]
  simp only [Option.bind_some]
  by_cases h : e = 0
  · rw [he h]; simp [h]
  · have h1 : (e == 0) = false := eF h
    simp [h1]
theorem mkR_is {p : Int} {l : List Sp} (h : PL p l) : m_law16_is std (mkR p l).1 (mkR p l).2.1 (mkR p l).2.2.2 (mkR p l).1 (mkR p l).2.1 (mkR p l).2.2.2 (mkR p l).2.2.1 (mkR p l).2.2.1 = some true := by
  unfold mkR
  split
  · rename_i hh
    have hv := mkR_ok h hh
    exact p_law16_is hv.n5 (fun _ => hv.back)
  · exact p_law16_is (by simp) (fun h => by simp at h)
end Go.Proofs.Ytoklfjkanipjkaa
