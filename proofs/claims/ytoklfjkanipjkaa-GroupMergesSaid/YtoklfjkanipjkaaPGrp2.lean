/-
  GroupGroups: what the law's function comes to.
-/
import Derived.Test.YtoklfjkanipjkaaPGrp
namespace Go.Proofs.Ytoklfjkanipjkaa
open Go.RowKit

theorem arg_bd {N m j : Nat} (hj : j < N) (hN : N ≤ 5000) (hm2 : m ≤ 12622780800) : 0 ≤ (j : Int) * (m : Int) ∧ ((j : Int) + 1) * (m : Int) = (j : Int) * (m : Int) + m ∧ (j : Int) * (m : Int) + m ≤ (N : Int) * (m : Int) ∧ (N : Int) * (m : Int) ≤ 63113904000000 := by
  have e : ((j : Int) + 1) * (m : Int) = (j : Int) * (m : Int) + m := by rw [Int.add_mul, Int.one_mul]
  refine ⟨Int.mul_nonneg (nn _) (nn _), e, ?_, ?_⟩
  · rw [← e]; exact Int.mul_le_mul_of_nonneg_right (by omega) (nn _)
  · have h1 : (N : Int) * (m : Int) ≤ 5000 * (m : Int) := Int.mul_le_mul_of_nonneg_right (by omega) (nn _)
    omega

section
variable {o p : Int} {l : List Sp} {first : Int} {m : Nat}
theorem p_Groups_1 (hv : Vd o p l) (hf1 : -268435456 ≤ first) (hf2 : first ≤ 268435456) (hm : 1 ≤ m) (hm2 : m ≤ 12622780800) (hb : bP p l m ≤ 12622780800) {j : Nat} (hj : j < l.length / Nat.gcd l.length m) :
    m_group_Groups_1 std (j : Int) o p first (m : Int) l = some ((grpF o p l first m j).1, (grpF o p l first m j).2, true) := by
  have h5 := hv.n5
  have hN := Nat.div_le_self l.length (Nat.gcd l.length m)
  obtain ⟨a1, a2, a3, a4⟩ := arg_bd hj (by omega) hm2
  rw [m_group_Groups_1_eq]
  refine gI (by omega) (gI (by omega) (gI (by omega) (gI (by omega) (gI (by omega) (gI (by omega) ?_)))))
  exact bB (p_group_at hv (grp_ok hv hf1 hf2 hb (by omega) (by omega))) (bB (p_group_at hv (grp_ok hv hf1 hf2 hb (by omega) (by omega))) rfl)
theorem p_collect_Groups (hv : Vd o p l) (hf1 : -268435456 ≤ first) (hf2 : first ≤ 268435456) (hm : 1 ≤ m) (hm2 : m ≤ 12622780800) (hb : bP p l m ≤ 12622780800) :
    m_group_collect std (bP p l m) ((l.length / Nat.gcd l.length m : Nat) : Int) o p first (m : Int) l = some (mkR (bP p l m) (grpL o p l first m)) := by
  have h5 := hv.n5
  have hN := Nat.div_le_self l.length (Nat.gcd l.length m)
  have hP := grp_PL hv hf1 hf2 hm hb
  have hP0 := hP.n0
  rw [m_group_collect_eq]
  refine bB (loop_gl (n := l.length / Nat.gcd l.length m) (grpF o p l first m) (by omega) (fun i hi => ?_) (fun l' => ?_)) ?_
  · rw [m_group_collect_L1_eq]
    refine bT (dT (by omega)) (bB (p_Groups_1 hv hf1 hf2 hm hm2 hb hi) (bB (bT rfl (gR (by rw [gl_len]; omega) (gR (by simp) rfl))) (gI (by omega) rfl)))
  · rw [m_group_collect_L1_eq]; exact bF (dF (by omega)) rfl
  · exact bF (eF (by have := hP0; unfold grpL at this; omega)) (bB (p_group_made hP) rfl)
theorem p_group_Groups (hv : Vd o p l) (hf1 : -268435456 ≤ first) (hf2 : first ≤ 268435456) (hm : 1 ≤ m) (hm2 : m ≤ 12622780800) :
    m_group_Groups std o p first (m : Int) l = some (if bP p l m ≤ 12622780800 then mkR (bP p l m) (grpL o p l first m) else (0, 0, [], 9)) := by
  have h5 := hv.n5
  have hN := Nat.div_le_self l.length (Nat.gcd l.length m)
  rw [m_group_Groups_eq, p_granule_Valid o p l (by omega), hv.back, p_group_blocks hv hm hm2]
  refine bB (v := false) (bB rfl (bF rfl (bF (dF (by omega)) (bF (dF (by omega)) (bF (dF (by omega)) (congrArg some (dF (by omega)))))))) (bF rfl ?_)
  by_cases hb : bP p l m ≤ 12622780800
  · rw [if_pos hb, if_pos hb]
    refine bB rfl (bB (v := .inr ()) (bF (nF (eT rfl)) (bF (dF (show ¬ (5000 : Int) < ((l.length / Nat.gcd l.length m : Nat) : Int) by omega)) rfl)) (bB (p_collect_Groups hv hf1 hf2 hm hm2 hb) rfl))
  · rw [if_neg hb, if_neg hb]
    exact bB rfl (bB (v := .inl 9) (bT rfl rfl) rfl)
theorem p_ref16_Groups (hv : Vd o p l) (hf1 : -268435456 ≤ first) (hf2 : first ≤ 268435456) (hm : 1 ≤ m) (hm2 : m ≤ 12622780800) :
    m_ref16_Groups std o p first (m : Int) l = some (if bP p l m ≤ 12622780800 then mkR (bP p l m) (grpL o p l first m) else (0, 0, [], 9)) := by
  have h0 := hv.n0
  have h5 := hv.n5
  have hp1 := hv.p1
  have hN := Nat.div_le_self l.length (Nat.gcd l.length m)
  have hg := gcd_pos' (m := m) h0
  have hq := Nat.div_le_self m (Nat.gcd l.length m)
  have z1 := nn (m / Nat.gcd l.length m)
  have z2 := nn (l.length / Nat.gcd l.length m)
  have hdq : 0 ≤ Int.tdiv 12622780800 p ∧ Int.tdiv 12622780800 p ≤ 12622780800 := by
    rw [Int.tdiv_eq_ediv_of_nonneg (by omega)]
    exact ⟨Int.ediv_nonneg (by omega) (by omega), Int.ediv_le_self _ (by omega)⟩
  have hbi := big_iff (p := p) (l := l) (m := m) hp1
  have hb0 : 0 ≤ bP p l m := Int.mul_nonneg (by omega) (nn _)
  rw [m_ref16_Groups_eq, p_ref01_Gcd _ _ (by omega) (by omega) (by omega)]
  simp only [nat_tdiv]
  refine bB (v := false) (bF (dF (by omega)) (bF (dF (by omega)) (bF (dF (by omega)) (congrArg some (dF (by omega)))))) (bF rfl ?_)
  refine bB rfl ?_
  simp only [nat_tdiv]
  refine gZ (by omega) (gI (by omega) (gZ (by omega) (gI (by omega) ?_)))
  by_cases hb : bP p l m ≤ 12622780800
  · rw [if_pos hb]
    have hP := grp_PL hv hf1 hf2 hm hb
    refine bF (dF (by rw [hbi]; exact fun h => h hb)) (gI (by omega) (bF (dF (by omega)) (bB (loop_gl (n := l.length / Nat.gcd l.length m) (grpF o p l first m) (by omega) (fun i hi => ?_) (fun l' => ?_)) ?_)))
    · obtain ⟨a1, a2, a3, a4⟩ := arg_bd hi (by omega) hm2
      rw [m_ref16_Groups_L1_eq]
      simp only [nat_tdiv]
      refine bT (dT (by omega)) (gI (by omega) (gI (by omega) (gI (by omega) (gI (by omega) (gI (by omega) (gI (by omega) ?_))))))
      refine bB (p_ref16_Granule hv (grp_ok hv hf1 hf2 hb (by omega) (by omega))) (bB (p_ref16_Granule hv (grp_ok hv hf1 hf2 hb (by omega) (by omega))) (gR (by rw [gl_len]; omega) (gR (by simp) rfl)))
    · rw [m_ref16_Groups_L1_eq]; simp only [nat_tdiv]; exact bF (dF (by omega)) rfl
    · exact gI (show _ ≤ bP p l m ∧ bP p l m ≤ _ by omega) (bB (p_ref16_Make hP) rfl)
  · rw [if_neg hb]
    exact bT (dT (hbi.2 hb)) rfl
theorem Groups_bad (h : validB o p l = false ∨ first < -268435456 ∨ 268435456 < first) (mi : Int) (hl : l.length ≤ 1099511627776) : m_group_Groups std o p first mi l = some (0, 0, [], 1) := by
  rw [m_group_Groups_eq, p_granule_Valid o p l hl]
  refine bB (v := true) (bB rfl ?_) rfl
  cases hv : validB o p l with
  | false => rfl
  | true =>
    refine bF rfl ?_
    by_cases h1 : mi < 1
    · exact bT (dT h1) rfl
    · by_cases h2 : 12622780800 < mi
      · exact bF (dF h1) (bT (dT h2) rfl)
      · refine bF (dF h1) (bF (dF h2) ?_)
        by_cases h3 : first < -268435456
        · exact bT (dT h3) rfl
        · refine bF (dF h3) (congrArg some (dT ?_))
          rcases h with h | h | h
          · rw [hv] at h; cases h
          · omega
          · exact h
theorem Groups_bad2 {mi : Int} (h : mi < 1 ∨ 12622780800 < mi) (hl : l.length ≤ 1099511627776) : m_group_Groups std o p first mi l = some (0, 0, [], 1) := by
  rw [m_group_Groups_eq, p_granule_Valid o p l hl]
  refine bB (v := true) (bB rfl ?_) rfl
  cases hv : validB o p l with
  | false => rfl
  | true =>
    refine bF rfl ?_
    by_cases h1 : mi < 1
    · exact bT (dT h1) rfl
    · exact bF (dF h1) (bT (dT (by omega)) rfl)
theorem rGroups_bad {mi : Int} (h : mi < 1 ∨ 12622780800 < mi ∨ first < -268435456 ∨ 268435456 < first) : m_ref16_Groups std o p first mi l = some (0, 0, [], 1) := by
  rw [m_ref16_Groups_eq]
  refine bB (v := true) ?_ rfl
  by_cases h1 : mi < 1
  · exact bT (dT h1) rfl
  · by_cases h2 : 12622780800 < mi
    · exact bF (dF h1) (bT (dT h2) rfl)
    · refine bF (dF h1) (bF (dF h2) ?_)
      by_cases h3 : 268435456 < first
      · exact bT (dT h3) rfl
      · exact bF (dF h3) (congrArg some (dT (by omega)))
end
/-- an invalid calendar, with the error for it -/
theorem is_bad : m_law16_is std 0 0 1 0 0 1 [] [] = some true := p_law16_is (by simp) (by omega)
theorem is_err {e : Int} (h : e ≠ 0) : m_law16_is std 0 0 e 0 0 e [] [] = some true := p_law16_is (by simp) (fun h' => absurd h' h)
end Go.Proofs.Ytoklfjkanipjkaa
