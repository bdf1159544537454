/-
  granule.Span, the plain law.
-/
import Derived.Test.YtoklfjkanipjkaaPGrp2
namespace Go.Proofs.Ytoklfjkanipjkaa
open Go.RowKit

theorem quo_neg {M p : Int} (hM : 0 ≤ M) (hp : 1 ≤ p) : Int.tdiv (-M) p = -(M / p) := by
  rw [Int.neg_tdiv, Int.tdiv_eq_ediv_of_nonneg hM]
theorem p_granule_Span (o p k : Int) (l : List Sp) (hl : l.length ≤ 1099511627776) (hk1 : -9000000000000000000 ≤ k) (hk2 : k ≤ 9000000000000000000) :
    m_granule_Span std o p k l = some (spanF o p l k, spanT o p l k, spanE o p l k) := by
  rw [m_granule_Span_eq, p_granule_Valid _ _ _ hl]
  cases hv : validB o p l with
  | false =>
    obtain ⟨e1, e2, e3⟩ := spanE_v (k := k) hv
    rw [e1, e2, e3]
    exact bB rfl (bT rfl rfl)
  | true =>
    have hd := Vd.of hv
    have h0 := hd.n0
    have h5 := hd.n5
    have hp1 := hd.p1
    have hp2 := hd.p2
    have hq : Int.tdiv 8796093022208 p = 8796093022208 / p := Int.tdiv_eq_ediv_of_nonneg (by omega)
    have hq' : Int.tdiv (-8796093022208) p = -(8796093022208 / p) := quo_neg (by omega) hp1
    have hs : 0 ≤ 8796093022208 / p ∧ 8796093022208 / p ≤ 8796093022208 := ⟨Int.ediv_nonneg (by omega) (by omega), Int.ediv_le_self _ (by omega)⟩
    simp only [hq, hq']
    refine bB rfl (bF rfl (bB (p_integer_Floor _ _ (by omega) (by omega) (by omega) (by omega)) ?_))
    by_cases h1 : 8796093022208 / p < k / (l.length : Int)
    · obtain ⟨e1, e2, e3⟩ := spanE_off hv (far_hi hd (Int.le_refl _) h1)
      rw [e1, e2, e3]
      exact bB (v := true) (bT (dT h1) (gZ (by omega) (gI (by omega) rfl))) (bT rfl rfl)
    by_cases h2 : k / (l.length : Int) < -(8796093022208 / p) - 1
    · obtain ⟨e1, e2, e3⟩ := spanE_off hv (far_lo hd (Int.le_refl _) h2)
      rw [e1, e2, e3]
      exact bB (v := true) (bF (dF h1) (gZ (by omega) (gI (by omega) (gI (by omega) (gI (by omega) (congrArg some (dT h2))))))) (bT rfl rfl)
    have hb := near_bd (n := l.length) (k := k) (M := 8796093022208) hp1 hp2 (by omega) (by omega) (by omega) (by omega)
    refine bB (v := false) (bF (dF h1) (gZ (by omega) (gI (by omega) (gI (by omega) (gI (by omega) (congrArg some (dF h2))))))) (bF rfl ?_)
    have hr := div_bd (a := k) (b := (l.length : Int)) (by omega)
    have hbd := hd.bd (k := (k % (l.length : Int)).toNat) (by omega)
    have hh1 := hd.o1
    have hh2 := hd.o2
    have hsm := mul_small (q := k / (l.length : Int)) h0 h5 hp1 hb.1 hb.2
    have he : k - (l.length : Int) * (k / (l.length : Int)) = k % (l.length : Int) := (Int.emod_def k _).symm
    have hat : m_granule_at std o p k l = some (atF o p l k, atT o p l k) := by
      rw [m_granule_at_eq]
      refine bB (p_integer_Floor _ _ (by omega) (by omega) (by omega) (by omega)) ?_
      simp only [fr_def, tt_def, he]
      exact gI (by omega) (gI (by omega) (gI (by omega) (gI (by omega) (gX (by omega) (gK (by omega) (gI (by omega) (gI (by omega) rfl)))))))
    refine bB hat ?_
    cases hon : onB o p l k with
    | true =>
      obtain ⟨e1, e2, e3⟩ := spanE_on hv hon
      rw [e1, e2, e3]
      simp only [onB, Bool.and_eq_true] at hon
      exact bB (v := false) (bB (p_granule_line _) (bF (by rw [hon.1]; rfl) (bB (p_granule_line _) (by rw [hon.2]; rfl)))) (bF rfl rfl)
    | false =>
      obtain ⟨e1, e2, e3⟩ := spanE_off hv hon
      rw [e1, e2, e3]
      refine bB (v := true) ?_ (bT rfl rfl)
      cases hF : lineB (atF o p l k) with
      | false => exact bB (p_granule_line _) (bT (by rw [hF]; rfl) rfl)
      | true =>
        have : lineB (atT o p l k) = false := by simp only [onB, hF, Bool.true_and] at hon; exact hon
        exact bB (p_granule_line _) (bF (by rw [hF]; rfl) (bB (p_granule_line _) (by rw [this]; rfl)))
end Go.Proofs.Ytoklfjkanipjkaa
