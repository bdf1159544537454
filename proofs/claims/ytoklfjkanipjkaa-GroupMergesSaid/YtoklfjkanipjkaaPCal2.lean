/-
  The reference's Valid and Make, granule.Of, group.made: what the models come to.
-/
import Derived.Test.YtoklfjkanipjkaaPCal
namespace Go.Proofs.Ytoklfjkanipjkaa
open Go.RowKit

theorem p_ref16_repeats {p : Int} {l : List Sp} (h : LeOk p l) (m : Nat) (hm1 : 1 ≤ m) (hm2 : m < l.length) :
    m_ref16_repeats std (p / ((l.length / m : Nat) : Int)) (m : Int) l = some ((List.range (l.length - m)).all (eqAt (p / ((l.length / m : Nat) : Int)) l m)) := by
  have h0 := h.n0
  have h5 := h.n5
  have hp1 := h.p1
  have hp2 := h.p2
  have hds := div_small h.p1 (l.length / m)
  generalize p / ((l.length / m : Nat) : Int) = d at *
  have step : ∀ i, i + m < l.length → m_ref16_repeats_L1 std (m : Int) l d ((i + m : Nat) : Int) = if eqAt d l m i then some (.inl ((i + 1 + m : Nat) : Int)) else some (.inr (.inl ())) := by
    intro i hi
    rw [m_ref16_repeats_L1_eq]
    have e1 : (((i + m : Nat) : Int) - (m : Int)).toNat = i := by omega
    have hb1 := h.bd i (by omega)
    simp only [e1, Int.toNat_natCast, fr_def, tt_def]
    refine bT (dT (by omega)) ?_
    by_cases c1 : fr l (i + m) = fr l i + d
    · by_cases c2 : tt l (i + m) = tt l i + d
      · have he : eqAt d l m i = true := by unfold eqAt; rw [eT c1, eT c2]; rfl
        rw [he]
        refine bB (v := false) (bF (nF (eT c1)) (gX (by omega) (gK (by omega) (gI (by omega) (gX (by omega) (gK (by omega) (gI (by omega) (gI (by omega) ?_)))))))) (bF rfl (gI (by omega) ?_))
        · rw [eT c2]; rfl
        · simp; omega
      · have he : eqAt d l m i = false := by unfold eqAt; rw [eT c1, eF c2]; rfl
        rw [he]
        refine bB (v := true) (bF (nF (eT c1)) (gX (by omega) (gK (by omega) (gI (by omega) (gX (by omega) (gK (by omega) (gI (by omega) (gI (by omega) ?_)))))))) (bT rfl (by simp))
        rw [eF c2]; rfl
    · have he : eqAt d l m i = false := by unfold eqAt; rw [eF c1]; rfl
      rw [he]
      exact bB (v := true) (bT (nT (eF c1)) (gX (by omega) (gK (by omega) (gI (by omega) (gX (by omega) (gK (by omega) (gI (by omega) rfl))))))) (bT rfl (by simp))
  rw [m_ref16_repeats_eq]
  have e0 : (m : Int) = ((0 + m : Nat) : Int) := by simp
  rcases first_or (eqAt d l m) (l.length - m) with ha | ⟨k, hk, h1, h2⟩
  · have : (List.range (l.length - m)).all (eqAt d l m) = true := by rw [List.all_eq_true]; intro i hi; exact ha i (by simpa using hi)
    rw [this]
    refine bB (v := .inr ()) ?_ rfl
    rw [show loop (m_ref16_repeats_L1 std (m : Int) l d) (m : Int) = loop (m_ref16_repeats_L1 std (m : Int) l d) ((0 + m : Nat) : Int) by rw [← e0]]
    refine loop_to' (n := l.length - m) (fun i => ((i + m : Nat) : Int)) (by omega) (fun i hi => ?_) ?_
    · rw [step i (by omega), ha i hi]; rfl
    · rw [m_ref16_repeats_L1_eq]; exact bF (dF (by omega)) rfl
  · have : (List.range (l.length - m)).all (eqAt d l m) = false := by rw [List.all_eq_false]; exact ⟨k, by simpa using hk, by rw [h1]; simp⟩
    rw [this]
    refine bB (v := .inl ()) ?_ rfl
    rw [show loop (m_ref16_repeats_L1 std (m : Int) l d) (m : Int) = loop (m_ref16_repeats_L1 std (m : Int) l d) ((0 + m : Nat) : Int) by rw [← e0]]
    refine loop_to' (n := k) (fun i => ((i + m : Nat) : Int)) (by omega) (fun i hi => ?_) ?_
    · rw [step i (by omega), h2 i hi]; rfl
    · rw [step k (by omega), h1]; rfl

theorem p_ref16_least {p : Int} {l : List Sp} (h : LeOk p l) : m_ref16_least std p l = some ((leastN p l : Nat) : Int) := by
  have h0 := h.n0
  have h5 := h.n5
  have hp1 := h.p1
  have hp2 := h.p2
  have step : ∀ m, 1 ≤ m → m < l.length → m_ref16_least_L1 std l p (m : Int) = if repM p l m then some (.inr (.inl (m : Int))) else some (.inl ((m + 1 : Nat) : Int)) := by
    intro m hm1 hm2
    have hds := div_small h.p1 (l.length / m)
    have hq1 : 1 ≤ l.length / m := Nat.div_pos (by omega) hm1
    have hq2 : l.length / m ≤ l.length := Nat.div_le_self _ _
    have hd : Int.tdiv p ((l.length / m : Nat) : Int) = p / ((l.length / m : Nat) : Int) := by rw [Int.tdiv_eq_ediv_of_nonneg (by omega)]
    have hr : Int.tmod p ((l.length / m : Nat) : Int) = p % ((l.length / m : Nat) : Int) := by rw [Int.tmod_eq_emod_of_nonneg (by omega)]
    rw [m_ref16_least_L1_eq]
    simp only [nat_tmod, nat_tdiv, hd, hr]
    refine bT (dT (by omega)) ?_
    by_cases hc1 : l.length % m = 0
    · by_cases hc2 : p % ((l.length / m : Nat) : Int) = 0
      · have hre : repM p l m = (List.range (l.length - m)).all (eqAt (p / ((l.length / m : Nat) : Int)) l m) := by
            unfold repM
            have e2 : (l.length % m == 0) = true := by simp [hc1]
            rw [e2, eT hc2]; rfl
        refine bB (v := repM p l m) (bT (eT (by omega)) (bT (eT hc2) (gZ (by omega) (gI (by omega) (gZ (by omega) (gI (by omega) ?_)))))) ?_
        · rw [p_ref16_repeats h m hm1 hm2, hre]; rfl
        · cases repM p l m with
          | true => rfl
          | false => exact bF rfl (gI (by omega) (by simp))
      · refine bB (v := false) (bT (eT (by omega)) (bF (eF hc2) (gZ (by omega) (gI (by omega) (gZ (by omega) rfl))))) (bF rfl (gI (by omega) ?_))
        rw [repM_f2 hc2]; simp
    · refine bB (v := false) (bF (eF (by omega)) (gZ (by omega) rfl)) (bF rfl (gI (by omega) ?_))
      rw [repM_f1 hc1]; simp
  obtain ⟨m1, m2, m3, m4⟩ := leastN_spec (p := p) h0
  rw [m_ref16_least_eq]
  have e1 : (1 : Int) = ((0 + 1 : Nat) : Int) := by simp
  rcases Nat.lt_or_ge (leastN p l) l.length with hlt | hge
  · refine bB (v := .inl ((leastN p l : Nat) : Int)) ?_ rfl
    rw [e1]
    refine loop_to' (n := leastN p l - 1) (fun i => ((i + 1 : Nat) : Int)) (by omega) (fun i hi => ?_) ?_
    · rw [step (i + 1) (by omega) (by omega), m4 (i + 1) (by omega) (by omega)]; simp
    · show m_ref16_least_L1 std l p ((leastN p l - 1 + 1 : Nat) : Int) = _
      rw [show leastN p l - 1 + 1 = leastN p l by omega, step _ m1 hlt, m3]; rfl
  · have hn : leastN p l = l.length := by omega
    refine bB (v := .inr ()) ?_ (by rw [hn])
    rw [e1]
    refine loop_to' (n := l.length - 1) (fun i => ((i + 1 : Nat) : Int)) (by omega) (fun i hi => ?_) ?_
    · rw [step (i + 1) (by omega) (by omega), m4 (i + 1) (by omega) (by omega)]; simp
    · rw [m_ref16_least_L1_eq]; exact bF (dF (by omega)) rfl

/-- what the reference's Valid asks of span k -/
def rAt (p : Int) (l : List Sp) (k : Nat) : Bool := decide (fr l k < tt l k) && (decide (0 ≤ fr l k) && (decide (tt l k ≤ p) && (k == 0 || decide (tt l (k - 1) ≤ fr l k))))
theorem rAt_iff {p : Int} {l : List Sp} {k : Nat} : rAt p l k = true ↔ fr l k < tt l k ∧ 0 ≤ fr l k ∧ tt l k ≤ p ∧ (k = 0 ∨ tt l (k - 1) ≤ fr l k) := by simp [rAt]
theorem rAt_asc {p : Int} {l : List Sp} (h0 : 0 < l.length) (hp2 : p ≤ 12622780800) (hf : fr l 0 = 0) : (∀ k, k < l.length → rAt p l k = true) ↔ ascB l = true ∧ tt l (l.length - 1) ≤ p := by
  constructor
  · intro h
    refine ⟨ascB_iff.2 ⟨h0, fun j hj => ?_⟩, (rAt_iff.1 (h _ (by omega))).2.2.1⟩
    have := rAt_iff.1 (h j hj)
    simp only [ascAt, Bool.and_eq_true, Bool.or_eq_true, decide_eq_true_eq, beq_iff_eq]
    exact ⟨ivB_iff.2 (by omega), this.2.2.2⟩
  · intro ⟨h, ht⟩ k hk
    have h1 := asc_mono h k 0 (by omega) hk
    have h2 := asc_mono h (l.length - 1) k (by omega) (by omega)
    have h3 := asc_iv h hk
    have h5 := (ascB_iff.1 h).2 k hk
    simp only [ascAt, Bool.and_eq_true, Bool.or_eq_true, decide_eq_true_eq, beq_iff_eq] at h5
    exact rAt_iff.2 ⟨by omega, by omega, by omega, h5.2⟩
theorem p_ref16_Valid_at (p : Int) (l : List Sp) (hl : l.length ≤ 1099511627776) (i : Nat) (hi : i < l.length) : m_ref16_Valid_L1 std p l (i : Int) = if rAt p l i then some (.inl ((i + 1 : Nat) : Int)) else some (.inr (.inl ())) := by
  rw [m_ref16_Valid_L1_eq]
  simp only [Int.toNat_natCast, fr_def, tt_def]
  refine bT (dT (by omega)) ?_
  refine bB (v := !rAt p l i) ?_ ?_
  · by_cases c1 : fr l i < tt l i
    · refine bF (dF (by omega)) ?_
      by_cases c2 : 0 ≤ fr l i
      · refine bF (dF (by omega)) ?_
        by_cases c3 : tt l i ≤ p
        · refine bF (dF (by omega)) ?_
          rcases Nat.eq_zero_or_pos i with h0 | h0
          · subst h0
            refine bF (dF (by omega)) (gX (by omega) (gK (by omega) ?_))
            rw [rAt_iff.2 ⟨c1, c2, c3, .inl rfl⟩]; rfl
          · have e : ((i : Int) - 1).toNat = i - 1 := by omega
            refine bT (dT (by omega)) (gX (by omega) (gK (by omega) (gI (by omega) (gX (by omega) ?_))))
            rw [e]
            refine gK (by omega) (congrArg some ?_)
            have e3 : rAt p l i = decide (tt l (i - 1) ≤ fr l i) := by
              have e2 : (i == 0) = false := by simp; omega
              simp only [rAt, dT c1, dT c2, dT c3, e2, Bool.true_and, Bool.false_or]
            rw [e3]
            exact dnot (show fr l i < tt l (i - 1) ↔ ¬ tt l (i - 1) ≤ fr l i by omega)
        · have e3 : rAt p l i = false := by simp [rAt, c3]
          rw [e3]
          exact bT (dT (by omega)) (gX (by omega) (gK (by omega) rfl))
      · have e3 : rAt p l i = false := by simp [rAt, c2]
        rw [e3]
        exact bT (dT (by omega)) (gX (by omega) (gK (by omega) rfl))
    · have e3 : rAt p l i = false := by simp [rAt, c1]
      rw [e3]
      exact bT (dT (by omega)) (gX (by omega) (gK (by omega) rfl))
  · cases ha : rAt p l i with
    | true => exact bF rfl (gI (by omega) (by simp))
    | false => exact bT rfl (by simp)
theorem p_ref16_Valid (o p : Int) (l : List Sp) (hl : l.length ≤ 1099511627776) : m_ref16_Valid std o p l = some (validB o p l) := by
  rw [m_ref16_Valid_eq]
  simp only [fr_def, tt_def, Int.toNat_zero]
  by_cases c0 : 1 ≤ l.length
  · by_cases c1 : l.length ≤ 5000
    · by_cases c2 : 1 ≤ p
      · by_cases c3 : p ≤ 12622780800
        · by_cases c4 : o ≤ 2199023255552
          · by_cases c5 : -2199023255552 ≤ o
            · by_cases c6 : fr l 0 = 0
              · refine bB (v := false) (bF (dF (by omega)) (bF (dF (by omega)) (bF (dF (by omega)) (bF (dF (by omega)) (bF (dF (by omega)) (bF (dF (by omega)) (gX (by omega) (gK (by omega) ?_)))))))) (bF rfl ?_)
                · rw [eT c6]; rfl
                · have hv : validB o p l = (ascB l && (decide (tt l (l.length - 1) ≤ p) && leastN p l == l.length)) := by
                    have hh : halfB o = true := halfB_iff.2 ⟨c5, c4⟩
                    unfold validB
                    rw [dT c0, dT c1, dT c2, dT c3, hh, eT c6]; rfl
                  rcases first_or (rAt p l) l.length with h | ⟨k, hk, h1, h2⟩
                  · refine bB (v := .inr ()) ?_ ?_
                    · refine loop_to' (n := l.length) (fun i => (i : Int)) (by omega) (fun i hi => ?_) ?_
                      · rw [p_ref16_Valid_at p l hl i hi, h i hi]; rfl
                      · rw [m_ref16_Valid_L1_eq]; exact bF (dF (by omega)) rfl
                    · obtain ⟨g1, g2⟩ := (rAt_asc (by omega) c3 c6).1 h
                      have hle : LeOk p l := ⟨c2, c3, by omega, c1, asc_bd g1⟩
                      simp only
                      rw [p_ref16_least hle, Option.bind_some, hv, g1, dT g2]
                      congr 1
                      rw [Bool.eq_iff_iff]; simp; omega
                  · refine bB (v := .inl ()) ?_ ?_
                    · refine loop_to' (n := k) (fun i => (i : Int)) (by omega) (fun i hi => ?_) ?_
                      · rw [p_ref16_Valid_at p l hl i (by omega), h2 i hi]; rfl
                      · rw [p_ref16_Valid_at p l hl k hk, h1]; rfl
                    · have hn : ¬ (ascB l = true ∧ tt l (l.length - 1) ≤ p) := fun hc => by
                        have := (rAt_asc (by omega) c3 c6).2 hc k hk
                        rw [h1] at this; cases this
                      simp only
                      rw [hv]
                      cases ha : ascB l with
                      | false => rfl
                      | true => rw [dF (fun hc => hn ⟨ha, hc⟩)]; rfl
              · refine bB (v := true) (bF (dF (by omega)) (bF (dF (by omega)) (bF (dF (by omega)) (bF (dF (by omega)) (bF (dF (by omega)) (bF (dF (by omega)) (gX (by omega) (gK (by omega) ?_)))))))) (bT rfl ?_)
                · rw [eF c6]; rfl
                · simp [validB, c6]
            · refine bB (v := true) (bF (dF (by omega)) (bF (dF (by omega)) (bF (dF (by omega)) (bF (dF (by omega)) (bF (dF (by omega)) (bT (dT (by omega)) rfl)))))) (bT rfl ?_)
              simp [validB, halfB, c5]
          · refine bB (v := true) (bF (dF (by omega)) (bF (dF (by omega)) (bF (dF (by omega)) (bF (dF (by omega)) (bT (dT (by omega)) rfl))))) (bT rfl ?_)
            simp [validB, halfB, c4]
        · refine bB (v := true) (bF (dF (by omega)) (bF (dF (by omega)) (bF (dF (by omega)) (bT (dT (by omega)) rfl)))) (bT rfl ?_)
          simp [validB, c3]
      · refine bB (v := true) (bF (dF (by omega)) (bF (dF (by omega)) (bT (dT (by omega)) rfl))) (bT rfl ?_)
        simp [validB, c2]
    · refine bB (v := true) (bF (dF (by omega)) (bT (dT (by omega)) rfl)) (bT rfl ?_)
      simp [validB, c1]
  · refine bB (v := true) (bT (dT (by omega)) rfl) (bT rfl ?_)
    simp [validB, c0]

/-! lists moved to their first span -/
/-- small enough to be moved by its first span -/
def Bd2 (l : List Sp) : Prop := ∀ k, k < l.length → -4611686018427387904 ≤ fr l k - fr l 0 ∧ fr l k - fr l 0 ≤ 4611686018427387904 ∧ -4611686018427387904 ≤ tt l k - fr l 0 ∧ tt l k - fr l 0 ≤ 4611686018427387904
theorem p_granule_Of_L1 (l : List Sp) (hl : l.length ≤ 1099511627776) (hb : Bd2 l) : loop (m_granule_Of_L1 std l) (0, []) = some (shiftL l (fr l 0)) := by
  have e0 : (((0 : Nat) : Int), shiftL (l.take 0) (fr l 0)) = ((0 : Int), ([] : List Sp)) := by simp [shiftL]
  have := loop_to' (B := m_granule_Of_L1 std l) (e := shiftL l (fr l 0)) (n := l.length) (fun i => ((i : Int), shiftL (l.take i) (fr l 0))) (by omega) (fun i hi => ?_) ?_
  · rw [e0] at this; exact this
  · rw [m_granule_Of_L1_eq]
    have hh := hb i hi
    have hlen : (shiftL (l.take i) (fr l 0)).length = i := by rw [shiftL_len, List.length_take]; omega
    rw [shiftL_take_succ hi]
    simp only [Int.toNat_natCast, Int.toNat_zero, fr_def, tt_def]
    refine bT (dT (by omega)) (gX (by omega) (gK (by omega) (gI (by omega) (gI (by omega) (gR (by omega) (gR (by simp) (gI (by omega) ?_)))))))
    simp
  · rw [m_granule_Of_L1_eq, List.take_length]
    exact bF (dF (by omega)) rfl
theorem p_ref16_Make_L1 (l : List Sp) (hl : l.length ≤ 1099511627776) (hb : Bd2 l) : loop (m_ref16_Make_L1 std l) (0, []) = some (shiftL l (fr l 0)) := by
  have e0 : (((0 : Nat) : Int), shiftL (l.take 0) (fr l 0)) = ((0 : Int), ([] : List Sp)) := by simp [shiftL]
  have := loop_to' (B := m_ref16_Make_L1 std l) (e := shiftL l (fr l 0)) (n := l.length) (fun i => ((i : Int), shiftL (l.take i) (fr l 0))) (by omega) (fun i hi => ?_) ?_
  · rw [e0] at this; exact this
  · rw [m_ref16_Make_L1_eq]
    have hh := hb i hi
    have hlen : (shiftL (l.take i) (fr l 0)).length = i := by rw [shiftL_len, List.length_take]; omega
    rw [shiftL_take_succ hi]
    simp only [Int.toNat_natCast, Int.toNat_zero, fr_def, tt_def]
    refine bT (dT (by omega)) (gX (by omega) (gK (by omega) (gI (by omega) (gI (by omega) (gR (by omega) (gR (by simp) (gI (by omega) ?_)))))))
    simp
  · rw [m_ref16_Make_L1_eq, List.take_length]
    exact bF (dF (by omega)) rfl
theorem p_group_made_L1 (l : List Sp) (hl : l.length ≤ 1099511627776) (hb : Bd2 l) : loop (m_group_made_L1 std l) (0, []) = some (shiftL l (fr l 0)) := by
  have e0 : (((0 : Nat) : Int), shiftL (l.take 0) (fr l 0)) = ((0 : Int), ([] : List Sp)) := by simp [shiftL]
  have := loop_to' (B := m_group_made_L1 std l) (e := shiftL l (fr l 0)) (n := l.length) (fun i => ((i : Int), shiftL (l.take i) (fr l 0))) (by omega) (fun i hi => ?_) ?_
  · rw [e0] at this; exact this
  · rw [m_group_made_L1_eq]
    have hh := hb i hi
    have hlen : (shiftL (l.take i) (fr l 0)).length = i := by rw [shiftL_len, List.length_take]; omega
    rw [shiftL_take_succ hi]
    simp only [Int.toNat_natCast, Int.toNat_zero, fr_def, tt_def]
    refine bT (dT (by omega)) (gX (by omega) (gK (by omega) (gI (by omega) (gI (by omega) (gR (by omega) (gR (by simp) (gI (by omega) ?_)))))))
    simp
  · rw [m_group_made_L1_eq, List.take_length]
    exact bF (dF (by omega)) rfl
end Go.Proofs.Ytoklfjkanipjkaa
