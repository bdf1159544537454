/-
  GroupCustoms, the plain law.
-/
import Derived.Test.YtoklfjkanipjkaaPPicks
namespace Go.Proofs.Ytoklfjkanipjkaa
open Go.RowKit

/-- an origin too far from 0 -/
theorem p_granule_Of_far {o p : Int} {l : List Sp} (h : PL p l) (hf : fr l 0 = 0) (hh : halfB o = false) : m_granule_Of std o p l = some (0, 0, [], 2) := by
  have h0 := h.n0
  have h5 := h.n5
  have hp1 := h.p1
  have hp2 := h.p2
  have hasc : ascB l = true := by have := h.asc; rwa [hf, shiftL_zero] at this
  have hfit := h.fit
  have hb := h.bd (k := l.length - 1) (by omega)
  have he : ((l.length : Int) - 1).toNat = l.length - 1 := by omega
  rw [m_granule_Of_eq]
  simp only [Int.toNat_zero, fr_def, tt_def, p_granule_ascending _ (show l.length ≤ 1099511627776 by omega), hasc, Option.bind_some, he, hf, p_granule_line, p_granule_half, Int.add_zero]
  refine bB (v := false) (bF (dF (by omega)) (bF (dF (by omega)) (bF rfl (gI (by omega) (gX (by omega) (gK (by omega) (gX (by omega) (gK (by omega) (gI (by omega) ?_))))))))) (bF rfl (bF (dF (by omega)) (gX (by omega) (gK (by omega) ?_))))
  · exact congrArg some (dF (show ¬ p < tt l (l.length - 1) - 0 by omega))
  · refine bB (v := true) ?_ rfl
    cases hl : lineB o with
    | false => rfl
    | true => rw [hh]; rw [lineB_iff] at hl; exact bF rfl (gI (by omega) rfl)

/-! Custom -/
def psum (ks : List Int) : Nat → Int
  | 0 => 0
  | i + 1 => psum ks i + kk ks i
def cuF (ks : List Int) (o : Int) (i : Nat) : Sp := (o + psum ks i, o + psum ks (i + 1))
def cuL (ks : List Int) (o : Int) : List Sp := gl ks.length (cuF ks o)
def cuB (ks : List Int) (i : Nat) : Bool := decide (1 ≤ kk ks i) && decide (kk ks i ≤ 12622780800)
theorem cuB_iff {ks : List Int} {i : Nat} : cuB ks i = true ↔ 1 ≤ kk ks i ∧ kk ks i ≤ 12622780800 := by simp [cuB]
theorem psum_bd {ks : List Int} (hB : ∀ i, i < ks.length → cuB ks i = true) : ∀ i, i ≤ ks.length → (i : Int) ≤ psum ks i ∧ psum ks i ≤ (i : Int) * 12622780800 := by
  intro i
  induction i with
  | zero => intro _; simp [psum]
  | succ i ih =>
    intro hi
    have h1 := ih (by omega)
    have h2 := cuB_iff.1 (hB i (by omega))
    rw [psum]
    omega
theorem shift_cu (ks : List Int) (o : Int) : shiftL (cuL ks o) o = cuL ks 0 := by
  unfold shiftL cuL gl
  rw [List.map_map]
  refine List.map_congr_left fun i _ => ?_
  simp only [Function.comp, cuF]
  exact Prod.ext (by simp only []; omega) (by simp only []; omega)
theorem cu_PL {ks : List Int} {o : Int} (hB : ∀ i, i < ks.length → cuB ks i = true) (h0 : 0 < ks.length) (hk : ks.length ≤ 40) (hs : psum ks ks.length ≤ 12622780800) (h1 : -4611686018427387904 ≤ o) (h2 : o ≤ 4611686018427387904) : PL (psum ks ks.length) (cuL ks o) := by
  have hlen : (cuL ks o).length = ks.length := gl_len _ _
  have hb := psum_bd hB ks.length (by omega)
  refine ⟨by omega, by omega, by omega, hs, ?_, ?_, ?_, ?_, ?_⟩
  · intro k hk'
    rw [hlen] at hk'
    rw [cuL, fr_gl hk', tt_gl hk']
    have := cuB_iff.1 (hB k hk')
    simp only [cuF, psum]
    omega
  · intro k hk'
    rw [hlen] at hk'
    rw [cuL, fr_gl hk', tt_gl (by omega)]
    exact Int.le_refl _
  · rw [hlen, cuL, fr_gl h0, tt_gl (by omega)]
    simp only [cuF]
    rw [show ks.length - 1 + 1 = ks.length by omega, psum]
    omega
  · rw [cuL, fr_gl h0]; simp only [cuF, psum]; omega
  · rw [cuL, fr_gl h0]; simp only [cuF, psum]; omega
theorem cu_f0 {ks : List Int} (o : Int) (h0 : 0 < ks.length) : fr (cuL ks o) 0 = o := by rw [cuL, fr_gl h0]; simp only [cuF, psum]; omega

section
variable {ks : List Int}
theorem p_Custom_1 (i : Nat) : m_group_Custom_1 std (kk ks i) = some (!cuB ks i) := by
  rw [m_group_Custom_1_eq]
  by_cases h : kk ks i < 1
  · have : cuB ks i = false := by rw [Bool.eq_false_iff]; intro h'; have := cuB_iff.1 h'; omega
    rw [this]
    exact bB (v := true) (bT (dT h) rfl) rfl
  · refine bB (v := !cuB ks i) (bF (dF h) (congrArg some ?_)) rfl
    have : cuB ks i = decide (kk ks i ≤ 12622780800) := by
      simp only [cuB]
      rw [dT (show 1 ≤ kk ks i by omega), Bool.true_and]
    rw [this]
    exact dnot (by omega)
theorem p_Index_1 (hl : ks.length ≤ 40) {k : Nat} (hk : k < ks.length) (h : cuB ks k = true) : m_slices_IndexFunc_L1 std ks (k : Int) = some (.inl ((k + 1 : Nat) : Int)) := by
  rw [m_slices_IndexFunc_L1_eq]
  simp only [Int.toNat_natCast, kk_def, p_Custom_1, h]
  exact bT (dT (by omega)) (gX (by omega) (gK (by omega) (bB rfl (bF rfl (gI (by omega) rfl)))))
theorem p_Cont_ok (hl : ks.length ≤ 40) (hB : ∀ k, k < ks.length → cuB ks k = true) : m_slices_ContainsFunc std ks = some false := by
  rw [m_slices_ContainsFunc_eq, m_slices_IndexFunc_eq]
  refine bB (v := -1) (bB (v := .inr ()) (loop_to' (n := ks.length) (fun i => (i : Int)) (by omega) (fun i hi => p_Index_1 hl hi (hB i hi)) ?_) rfl) rfl
  rw [m_slices_IndexFunc_L1_eq]; exact bF (dF (by omega)) rfl
theorem p_Cont_no (hl : ks.length ≤ 40) {k : Nat} (hk : k < ks.length) (h : cuB ks k = false) (hB : ∀ i, i < k → cuB ks i = true) : m_slices_ContainsFunc std ks = some true := by
  rw [m_slices_ContainsFunc_eq, m_slices_IndexFunc_eq]
  refine bB (v := (k : Int)) (bB (v := .inl (k : Int)) (loop_to' (n := k) (fun i => (i : Int)) (by omega) (fun i hi => p_Index_1 hl (by omega) (hB i hi)) ?_) rfl) (congrArg some (dT (by omega)))
  rw [m_slices_IndexFunc_L1_eq]
  simp only [Int.toNat_natCast, kk_def, p_Custom_1, h]
  exact bT (dT (by omega)) (gX (by omega) (gK (by omega) (bB rfl (bT rfl rfl))))
theorem p_ref_Custom_L1 (hl : ks.length ≤ 40) {k : Nat} (hk : k < ks.length) : m_ref16_Custom_L1 std ks (k : Int) = some (if cuB ks k then .inl ((k + 1 : Nat) : Int) else .inr (.inl ())) := by
  rw [m_ref16_Custom_L1_eq]
  simp only [Int.toNat_natCast, kk_def]
  refine bT (dT (by omega)) (bB (v := !cuB ks k) ?_ ?_)
  · by_cases h : kk ks k < 1
    · have : cuB ks k = false := by rw [Bool.eq_false_iff]; intro h'; have := cuB_iff.1 h'; omega
      rw [this]
      exact bT (dT h) (gX (by omega) (gK (by omega) rfl))
    · refine bF (dF h) (gX (by omega) (gK (by omega) (congrArg some ?_)))
      have : cuB ks k = decide (kk ks k ≤ 12622780800) := by
        simp only [cuB]
        rw [dT (show 1 ≤ kk ks k by omega), Bool.true_and]
      rw [this]
      exact dnot (by omega)
  · cases cuB ks k with
    | true => exact bF rfl (gI (by omega) rfl)
    | false => exact bT rfl rfl
theorem p_Custom_L1 (hl : ks.length ≤ 40) (hB : ∀ k, k < ks.length → cuB ks k = true) : loop (m_group_Custom_L1 std ks) (0, 0, []) = some (psum ks ks.length, cuL ks 0) := by
  refine loop_to' (n := ks.length) (fun i => (psum ks i, (i : Int), gl i (cuF ks 0))) (by omega) (fun i hi => ?_) ?_
  · have hb := psum_bd hB i (by omega)
    have hk := cuB_iff.1 (hB i hi)
    rw [m_group_Custom_L1_eq]
    simp only [Int.toNat_natCast, kk_def, gl_succ]
    refine bT (dT (by omega)) (gX (by omega) (gK (by omega) (gI (by omega) (gR (by rw [gl_len]; omega) (gR (by simp) (gI (by omega) ?_))))))
    simp only [cuF, Int.zero_add, psum]
    rfl
  · rw [m_group_Custom_L1_eq]; exact bF (dF (by omega)) rfl
theorem p_ref_Custom_L2 (hl : ks.length ≤ 40) (hB : ∀ k, k < ks.length → cuB ks k = true) : loop (m_ref16_Custom_L2 std ks) (0, 0) = some (psum ks ks.length) := by
  refine loop_to' (n := ks.length) (fun i => (psum ks i, (i : Int))) (by omega) (fun i hi => ?_) ?_
  · have hb := psum_bd hB i (by omega)
    have hk := cuB_iff.1 (hB i hi)
    rw [m_ref16_Custom_L2_eq]
    simp only [Int.toNat_natCast, kk_def]
    exact bT (dT (by omega)) (gX (by omega) (gK (by omega) (gI (by omega) (gI (by omega) rfl))))
  · rw [m_ref16_Custom_L2_eq]; exact bF (dF (by omega)) rfl
theorem p_ref_Custom_L3 {o : Int} (hl : ks.length ≤ 40) (hB : ∀ k, k < ks.length → cuB ks k = true) (ho : halfB o = true) : loop (m_ref16_Custom_L3 std ks) (o, 0, []) = some (cuL ks o) := by
  have ho' := halfB_iff.1 ho
  have := loop_to' (B := m_ref16_Custom_L3 std ks) (n := ks.length) (fun i => (o + psum ks i, (i : Int), gl i (cuF ks o))) (e := cuL ks o) (by omega) (fun i hi => ?_) ?_
  · simp only [psum, Int.add_zero] at this; exact this
  · have hb := psum_bd hB i (by omega)
    have hk := cuB_iff.1 (hB i hi)
    rw [m_ref16_Custom_L3_eq]
    simp only [Int.toNat_natCast, kk_def, gl_succ]
    refine bT (dT (by omega)) (gX (by omega) (gK (by omega) (gI (by omega) (gR (by rw [gl_len]; omega) (gR (by simp) (gI (by omega) ?_))))))
    simp only [cuF, psum, Int.add_assoc]
    rfl
  · rw [m_ref16_Custom_L3_eq]; exact bF (dF (by omega)) rfl
/-- both make the same -/
theorem custom_both (o : Int) (ks : List Int) (hl : ks.length ≤ 40) : ∃ a b l e, m_group_Custom std o ks = some (a, b, l, e) ∧ m_ref16_Custom std o ks = some (a, b, l, e) ∧ m_law16_is std a b e a b e l l = some true := by
  rw [m_group_Custom_eq, m_ref16_Custom_eq]
  by_cases h0 : ks.length = 0
  · exact ⟨0, 0, [], 1, bB (v := true) (bT (eT (by omega)) rfl) rfl, bT (eT (by omega)) rfl, is_bad⟩
  rcases first_or (cuB ks) ks.length with hB | ⟨k, hk, hn, hB⟩
  · have hL1 : loop (m_ref16_Custom_L1 std ks) 0 = some (.inr ()) := by
      refine loop_to' (n := ks.length) (fun i => (i : Int)) (by omega) (fun i hi => by rw [p_ref_Custom_L1 hl hi, if_pos (hB i hi)]) ?_
      rw [m_ref16_Custom_L1_eq]; exact bF (dF (by omega)) rfl
    rw [p_Cont_ok hl hB, hL1, p_Custom_L1 hl hB, p_ref_Custom_L2 hl hB]
    by_cases hs : psum ks ks.length ≤ 12622780800
    · cases ho : halfB o with
      | true =>
        have ho' := halfB_iff.1 ho
        have hP := cu_PL (o := o) hB (by omega) hl hs (by omega) (by omega)
        have hf := cu_f0 o (ks := ks) (by omega)
        have hOf := p_granule_Of hP
        rw [hf, shift_cu] at hOf
        refine ⟨_, _, _, _, bB (v := false) (bF (eF (by omega)) rfl) (bF rfl (bF (dF (by omega)) (bB rfl (bF (dF (by omega)) (bB hOf rfl))))),
          bF (eF (by omega)) (bB rfl (bF (dF (by omega)) (bB rfl (bF (dF (by omega)) (bB (v := false) (bF (dF (by omega)) (congrArg some (dF (by omega)))) (bF rfl (bB (p_ref_Custom_L3 hl hB ho) (bB (p_ref16_Make hP) rfl)))))))), mkR_is hP⟩
      | false =>
        have hP := cu_PL (o := 0) hB (by omega) hl hs (by omega) (by omega)
        have hf := cu_f0 0 (ks := ks) (by omega)
        have hOf := p_granule_Of_far (o := o) hP hf ho
        refine ⟨0, 0, [], 2, bB (v := false) (bF (eF (by omega)) rfl) (bF rfl (bF (dF (by omega)) (bB rfl (bF (dF (by omega)) (bB hOf rfl))))),
          bF (eF (by omega)) (bB rfl (bF (dF (by omega)) (bB rfl (bF (dF (by omega)) (bB (v := true) ?_ rfl))))), is_err (by omega)⟩
        have ho2 : ¬ (-2199023255552 ≤ o ∧ o ≤ 2199023255552) := fun h => by rw [halfB_iff.2 h] at ho; cases ho
        by_cases h1 : 2199023255552 < o
        · exact bT (dT h1) rfl
        · exact bF (dF h1) (congrArg some (dT (by omega)))
    · exact ⟨0, 0, [], 9, bB (v := false) (bF (eF (by omega)) rfl) (bF rfl (bF (dF (by omega)) (bB rfl (bT (dT (by omega)) rfl)))),
        bF (eF (by omega)) (bB rfl (bF (dF (by omega)) (bB rfl (bT (dT (by omega)) rfl)))), is_err (by omega)⟩
  · have hL1 : loop (m_ref16_Custom_L1 std ks) 0 = some (.inl ()) :=
      loop_to' (n := k) (fun i => (i : Int)) (by omega) (fun i hi => by rw [p_ref_Custom_L1 hl (by omega), if_pos (hB i hi)]) (by rw [p_ref_Custom_L1 hl hk, if_neg (by rw [hn]; simp)])
    rw [p_Cont_no hl hk hn hB, hL1]
    exact ⟨0, 0, [], 1, bB (v := true) (bF (eF (by omega)) rfl) rfl, bF (eF (by omega)) rfl, is_bad⟩
end
/-! Fiscal -/
def fiB (ks : List Int) (i : Nat) : Bool := decide (1 ≤ kk ks i) && decide (kk ks i ≤ 60)
theorem fiB_iff {ks : List Int} {i : Nat} : fiB ks i = true ↔ 1 ≤ kk ks i ∧ kk ks i ≤ 60 := by simp [fiB]
def fiL (ks : List Int) (n : Nat) : List Int := (List.range n).map fun i => 7 * kk ks i
theorem fiL_len (ks : List Int) (n : Nat) : (fiL ks n).length = n := by simp [fiL]
theorem fiL_succ (ks : List Int) (n : Nat) : fiL ks (n + 1) = fiL ks n ++ [7 * kk ks n] := by simp [fiL, List.range_succ]
theorem p_Fiscal_L1 {ks : List Int} (hl : ks.length ≤ 40) {i : Nat} (hi : i < ks.length) : m_group_Fiscal_L1 std ks ((i : Int), fiL ks i) = some (if fiB ks i then .inl (((i + 1 : Nat) : Int), fiL ks (i + 1)) else .inr (.inl ())) := by
  rw [m_group_Fiscal_L1_eq]
  simp only [Int.toNat_natCast, kk_def]
  refine bT (dT (by omega)) (gX (by omega) (gK (by omega) ?_))
  by_cases h : fiB ks i = true
  · rw [if_pos h]
    rw [fiB_iff] at h
    refine bB (v := false) (bF (dF (by omega)) (congrArg some (dF (by omega)))) (bF rfl (gI (by omega) (gR (by rw [fiL_len]; omega) (gR (by simp) (gI (by omega) ?_)))))
    rw [fiL_succ]; rfl
  · rw [if_neg h]
    have h' : ¬ (1 ≤ kk ks i ∧ kk ks i ≤ 60) := fun h' => h (fiB_iff.2 h')
    refine bB (v := true) ?_ (bT rfl rfl)
    by_cases h1 : kk ks i < 1
    · exact bT (dT h1) rfl
    · exact bF (dF h1) (congrArg some (dT (by omega)))
theorem p_ref_Fiscal_L1 {ks : List Int} (hl : ks.length ≤ 40) {i : Nat} (hi : i < ks.length) : m_ref16_Fiscal_L1 std ks ((i : Int), fiL ks i) = some (if fiB ks i then .inl (((i + 1 : Nat) : Int), fiL ks (i + 1)) else .inr (.inl ())) := by
  rw [m_ref16_Fiscal_L1_eq]
  simp only [Int.toNat_natCast, kk_def]
  refine bT (dT (by omega)) ?_
  by_cases h : fiB ks i = true
  · rw [if_pos h]
    rw [fiB_iff] at h
    refine bB (v := false) (bF (dF (by omega)) (gX (by omega) (gK (by omega) (congrArg some (dF (by omega)))))) (bF rfl (gI (by omega) (gR (by rw [fiL_len]; omega) (gR (by simp) (gI (by omega) ?_)))))
    rw [fiL_succ]; rfl
  · rw [if_neg h]
    have h' : ¬ (1 ≤ kk ks i ∧ kk ks i ≤ 60) := fun h' => h (fiB_iff.2 h')
    refine bB (v := true) ?_ (bT rfl rfl)
    by_cases h1 : kk ks i < 1
    · exact bT (dT h1) (gX (by omega) (gK (by omega) rfl))
    · exact bF (dF h1) (gX (by omega) (gK (by omega) (congrArg some (dT (by omega)))))
theorem fiscal_both (o : Int) (ks : List Int) (hl : ks.length ≤ 40) : ∃ a b l e, m_group_Fiscal std o ks = some (a, b, l, e) ∧ m_ref16_Fiscal std o ks = some (a, b, l, e) ∧ m_law16_is std a b e a b e l l = some true := by
  rw [m_group_Fiscal_eq, m_ref16_Fiscal_eq]
  rcases first_or (fiB ks) ks.length with hB | ⟨k, hk, hn, hB⟩
  · have h1 : loop (m_group_Fiscal_L1 std ks) (0, []) = some (.inr (fiL ks ks.length)) := by
      refine loop_to' (n := ks.length) (fun i => ((i : Int), fiL ks i)) (by omega) (fun i hi => by rw [p_Fiscal_L1 hl hi, if_pos (hB i hi)]) ?_
      rw [m_group_Fiscal_L1_eq]; exact bF (dF (by omega)) rfl
    have h2 : loop (m_ref16_Fiscal_L1 std ks) (0, []) = some (.inr (fiL ks ks.length)) := by
      refine loop_to' (n := ks.length) (fun i => ((i : Int), fiL ks i)) (by omega) (fun i hi => by rw [p_ref_Fiscal_L1 hl hi, if_pos (hB i hi)]) ?_
      rw [m_ref16_Fiscal_L1_eq]; exact bF (dF (by omega)) rfl
    obtain ⟨a, b, l, e, e1, e2, e3⟩ := custom_both o (fiL ks ks.length) (by rw [fiL_len]; exact hl)
    exact ⟨a, b, l, e, bB h1 (bB e1 rfl), bB h2 (bB e2 rfl), e3⟩
  · have h1 : loop (m_group_Fiscal_L1 std ks) (0, []) = some (.inl ()) :=
      loop_to' (n := k) (fun i => ((i : Int), fiL ks i)) (by omega) (fun i hi => by rw [p_Fiscal_L1 hl (by omega), if_pos (hB i hi)]) (by rw [p_Fiscal_L1 hl hk, if_neg (by rw [hn]; simp)])
    have h2 : loop (m_ref16_Fiscal_L1 std ks) (0, []) = some (.inl ()) :=
      loop_to' (n := k) (fun i => ((i : Int), fiL ks i)) (by omega) (fun i hi => by rw [p_ref_Fiscal_L1 hl (by omega), if_pos (hB i hi)]) (by rw [p_ref_Fiscal_L1 hl hk, if_neg (by rw [hn]; simp)])
    exact ⟨0, 0, [], 1, bB h1 rfl, bB h2 rfl, is_bad⟩
/-! Fill -/
def flF (o p : Int) (l : List Sp) (k : Nat) : Sp := (atF o p l (k : Int), atF o p l ((k : Int) + 1))
def flL (o p : Int) (l : List Sp) : List Sp := gl l.length (flF o p l)
section
variable {o p : Int} {l : List Sp}
theorem at_zero (hv : Vd o p l) : atF o p l 0 = o ∧ atF o p l (l.length : Int) = o + p := by
  have h0 := hv.n0
  have a0 := (at_in o p h0).1
  rw [hv.f0, Int.zero_add] at a0
  have a1 := (at_add o p h0 0 1).1
  rw [Int.zero_add, Int.mul_one, Int.mul_one] at a1
  have a0' : atF o p l 0 = o := a0
  exact ⟨a0', by rw [a1, a0']⟩
theorem fl_PL (hv : Vd o p l) : PL p (flL o p l) := by
  have h0 := hv.n0
  have ho1 := hv.o1
  have ho2 := hv.o2
  have h5 := hv.n5
  have hlen : (flL o p l).length = l.length := gl_len _ _
  obtain ⟨a0, a1⟩ := at_zero hv
  have a0' : atF o p l ((0 : Nat) : Int) = o := a0
  refine ⟨by omega, by omega, hv.p1, hv.p2, ?_, ?_, ?_, ?_, ?_⟩
  · intro k hk
    rw [hlen] at hk
    rw [flL, fr_gl hk, tt_gl hk]
    have := at_lt hv (k : Int)
    simp only [flF]
    omega
  · intro k hk
    rw [hlen] at hk
    rw [flL, fr_gl hk, tt_gl (by omega)]
    simp only [flF]
    rw [show ((k + 1 : Nat) : Int) = (k : Int) + 1 by omega]
    exact Int.le_refl _
  · rw [hlen, flL, fr_gl h0, tt_gl (by omega)]
    simp only [flF]
    rw [show ((l.length - 1 : Nat) : Int) + 1 = (l.length : Int) by omega, a1, a0']
    omega
  · rw [flL, fr_gl h0]; simp only [flF, a0']; omega
  · rw [flL, fr_gl h0]; simp only [flF, a0']; omega
theorem p_group_Fill (hv : Vd o p l) : m_group_Fill std o p l = some (mkR p (flL o p l)) := by
  have h5 := hv.n5
  have hP := fl_PL hv
  have hP0 := hP.n0
  rw [m_group_Fill_eq, p_granule_Valid o p l (by omega), hv.back]
  refine bB rfl (bF rfl (bB (v := mkR p (flL o p l)) ?_ rfl))
  rw [m_group_collect_4_eq]
  refine bB (loop_gl (n := l.length) (flF o p l) (by omega) (fun i hi => ?_) (fun l' => ?_)) ?_
  · rw [m_group_collect_4_L1_eq]
    refine bT (dT (by omega)) (bB (v := ((flF o p l i).1, (flF o p l i).2, true)) ?_ (bB (bT rfl (gR (by rw [gl_len]; omega) (gR (by simp) rfl))) (gI (by omega) rfl)))
    rw [m_group_Fill_1_eq]
    exact gI (by omega) (bB (p_group_at hv (AtOk.base hv (by omega) (by omega))) (bB (p_group_at hv (AtOk.base hv (by omega) (by omega))) rfl))
  · rw [m_group_collect_4_L1_eq]; exact bF (dF (by omega)) rfl
  · exact bF (eF (by have := hP0; unfold flL at this; omega)) (bB (p_group_made hP) rfl)
theorem p_ref16_Fill (hv : Vd o p l) : m_ref16_Fill std o p l = some (mkR p (flL o p l)) := by
  have h5 := hv.n5
  have hP := fl_PL hv
  rw [m_ref16_Fill_eq]
  refine bB (loop_gl (n := l.length) (flF o p l) (by omega) (fun i hi => ?_) (fun l' => ?_)) (bB (p_ref16_Make hP) rfl)
  · rw [m_ref16_Fill_L1_eq]
    exact bT (dT (by omega)) (gI (by omega) (bB (p_ref16_Granule hv (AtOk.base hv (by omega) (by omega))) (bB (p_ref16_Granule hv (AtOk.base hv (by omega) (by omega))) (gR (by rw [gl_len]; omega) (gR (by simp) rfl)))))
  · rw [m_ref16_Fill_L1_eq]; exact bF (dF (by omega)) rfl
theorem p_Gapless (hv : Vd o p l) (h : ∀ k, k < l.length → tt l k = nextAt p l k) : m_granule_Gapless std o p l = some true := by
  have h5 := hv.n5
  rw [m_granule_Gapless_eq, p_granule_Valid o p l (by omega), hv.back]
  refine bB rfl (bF rfl (bB (v := .inr ()) (loop_to' (n := l.length) (fun i => (i : Int)) (by omega) (fun i hi => ?_) ?_) rfl))
  · have hx := h i hi
    rw [m_granule_Gapless_L1_eq]
    simp only [Int.toNat_natCast, show (((i : Int) + 1)).toNat = i + 1 by omega, fr_def, tt_def]
    refine bT (dT (by omega)) (gX (by omega) (gK (by omega) (gI (by omega) (bB (v := nextAt p l i) ?_ (bF (nF (eT hx)) rfl)))))
    unfold nextAt
    by_cases h1 : i + 1 < l.length
    · rw [if_pos h1]; exact bT (dT (by omega)) (gX (by omega) (gK (by omega) rfl))
    · rw [if_neg h1]; exact bF (dF (by omega)) rfl
  · rw [m_granule_Gapless_L1_eq]; exact bF (dF (by omega)) rfl
theorem fill_gap (hv : Vd o p l) : mkR p (flL o p l) = (o, ofP p (flL o p l), ofL p (flL o p l), 0) ∧ m_granule_Gapless std o (ofP p (flL o p l)) (ofL p (flL o p l)) = some true := by
  have h0 := hv.n0
  have hP := fl_PL hv
  have hlen : (flL o p l).length = l.length := gl_len _ _
  obtain ⟨a0, a1⟩ := at_zero hv
  have a0' : atF o p l ((0 : Nat) : Int) = o := a0
  have hf : fr (flL o p l) 0 = o := by rw [flL, fr_gl h0]; exact a0'
  have hh : halfB (fr (flL o p l) 0) = true := by rw [hf, halfB_iff]; exact ⟨hv.o1, hv.o2⟩
  have hV := mkR_ok hP hh
  refine ⟨by unfold mkR; rw [if_pos hh, hf], ?_⟩
  rw [hf] at hV
  refine p_Gapless hV fun k hk => ?_
  obtain ⟨m, e1, m1, m2, q1, q2, e2, e3⟩ := of_quo hP
  have hr := leastN_spec (p := p) (l := shiftL (flL o p l) (fr (flL o p l) 0)) (by rw [shiftL_len]; omega)
  rw [e1] at hr
  obtain ⟨r1, r2, r3⟩ := repM_parts hr.2.2.1
  rw [shiftL_len] at r1 r2 r3
  rw [hf] at r3 e3
  have hml : (ofL p (flL o p l)).length = m := by rw [e3, List.length_take, shiftL_len]; omega
  rw [hml] at hk
  have hfr (i : Nat) (hi : i < l.length) : fr (shiftL (flL o p l) o) i = atF o p l (i : Int) - o ∧ tt (shiftL (flL o p l) o) i = atF o p l ((i : Int) + 1) - o := by
    rw [fr_shift (by omega), tt_shift (by omega), flL, fr_gl hi, tt_gl hi]
    exact ⟨rfl, rfl⟩
  unfold nextAt
  rw [hml, e2, e3]
  rw [tt_take hk, (hfr k (by omega)).2]
  by_cases h1 : k + 1 < m
  · rw [if_pos h1, fr_take h1, (hfr (k + 1) (by omega)).1, show ((k + 1 : Nat) : Int) = (k : Int) + 1 by omega]
  · rw [if_neg h1]
    have hk1 : k + 1 = m := by omega
    rw [show (k : Int) + 1 = (m : Int) by omega]
    rcases Nat.lt_or_ge m l.length with h2 | h2
    · have h9 := eqAt_iff.1 (r3 0 (by omega))
      rw [Nat.zero_add, (hfr m h2).1, (hfr 0 h0).1, a0'] at h9
      omega
    · have hm : m = l.length := by omega
      rw [hlen, hm, Nat.div_self h0, a1]
      simp
      omega
end
theorem Fill_bad {o p : Int} {l : List Sp} (h : validB o p l = false) (hl : l.length ≤ 1099511627776) : m_group_Fill std o p l = some (0, 0, [], 1) := by
  rw [m_group_Fill_eq, p_granule_Valid o p l hl, h]; rfl
theorem pl_GroupCustoms (o p a : Int) (l : List Sp) (ks pat : List Int) : m_law16_GroupCustoms std o p a l ks pat = some true := by
  rw [m_law16_GroupCustoms_eq, awake16, p_law16_great]
  refine bB rfl (bF rfl ?_)
  by_cases hgr : 40 < l.length
  · exact bB (v := true) (bB rfl (bT (dT hgr) rfl)) rfl
  by_cases hgk : 40 < ks.length
  · exact bB (v := true) (bB rfl (bF (dF hgr) (bT (dT (by omega)) rfl))) rfl
  by_cases hgp : 40 < pat.length
  · exact bB (v := true) (bB rfl (bF (dF hgr) (bF (dF (by omega)) (congrArg some (dT (by omega)))))) rfl
  refine bB (v := false) (bB rfl (bF (dF hgr) (bF (dF (by omega)) (congrArg some (dF (by omega)))))) (bF rfl ?_)
  obtain ⟨a1, b1, l1, e1, c1, c2, c3⟩ := custom_both a ks (by omega)
  obtain ⟨a2, b2, l2, e2, f1, f2, f3⟩ := fiscal_both a pat (by omega)
  have hV := p_ref16_Valid o p l (by omega)
  cases hv : validB o p l with
  | false =>
    rw [hv] at hV
    exact bB c1 (bB c2 (bB f1 (bB f2 (bB (Fill_bad hv (by omega)) (bB (v := false) (bB c3 (bF rfl (bB f3 rfl))) (bF rfl (bB hV (bT rfl (bB is_bad rfl)))))))))
  | true =>
    rw [hv] at hV
    have hd := Vd.of hv
    obtain ⟨g1, g2⟩ := fill_gap hd
    have hi := mkR_is (fl_PL hd)
    have k1 := p_group_Fill hd
    have k2 := p_ref16_Fill hd
    rw [g1] at hi k1 k2
    exact bB c1 (bB c2 (bB f1 (bB f2 (bB k1 (bB (v := false) (bB c3 (bF rfl (bB f3 rfl))) (bF rfl (bB hV (bF rfl (bB k2 (bB (v := true) (bB hi (bT rfl (bT rfl (bB g2 rfl)))) rfl))))))))))
end Go.Proofs.Ytoklfjkanipjkaa
