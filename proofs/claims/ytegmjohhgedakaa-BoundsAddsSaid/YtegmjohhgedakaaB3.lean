/-
  Networks of bounds: the laws of the tight matrix, of Between, of Triangle and of the schedules.
-/
import Derived.Test.YtegmjohhgedakaaB2
namespace Go.Proofs.Ytegmjohhgedakaa
open Go.RowKit Fw

theorem Vld.nat {n : Int} {l : List Bd} (h : Vld n l) : n = ((n.toNat : Nat) : Int) := by have := h.n1; omega
/-- the answers of the tight matrices -/
theorem Vld.tight {n : Int} {l : List Bd} (h : Vld n l) : (Cons n.toNat (M0 l) ∧ m_bounds_tight std n l = some (mat n.toNat (Ti n.toNat l), true) ∧ m_ref45_Tight std n l = some (mat n.toNat (Ti n.toNat l), true)) ∨
    (¬ Cons n.toNat (M0 l) ∧ m_bounds_tight std n l = some ([], false) ∧ m_ref45_Tight std n l = some ([], false)) := by
  have h1 := h.n1
  have h2 := h.n24
  have h3 := h.len
  have e := h.nat
  rcases p_tight h.ok (by omega) (by omega) (by omega) with ⟨c, g⟩ | ⟨c, g⟩ <;> rcases p_refTight h.ok (by omega) (by omega) (by omega) with ⟨c', g'⟩ | ⟨c', g'⟩
  · rw [← e] at g g'; exact .inl ⟨c, g, g'⟩
  · exact absurd c c'
  · exact absurd c' c
  · rw [← e] at g g'; exact .inr ⟨c, g, g'⟩
theorem Vld.clo {n : Int} {l : List Bd} (h : Vld n l) (hc : Cons n.toNat (M0 l)) : Clo n.toNat (Ti n.toNat l) :=
  ti_clo h.ok (by have := h.n24; omega) hc
theorem ent_mat {n : Nat} {f : Mx} {i j : Nat} (hi : i < n) (hj : j < n) : ent (mat n f) i j = f i j := by
  unfold ent; rw [mat_row hi, rw_get hj]
theorem clo_clM {n : Nat} (h1 : 1 ≤ n) (h2 : n ≤ 24) {f : Mx} (h : Clo n f) : ClM (mat n f) := by
  refine ⟨by rw [mat_len]; exact h1, by rw [mat_len]; exact h2, fun i hi => ?_, fun i j k hi hj hk => ?_⟩
  · rw [mat_len] at hi ⊢
    refine ⟨by rw [mat_row hi, rw_len], fun j hj => ?_, by rw [ent_mat hi hi]; exact h.dia i hi⟩
    rw [ent_mat hi hj]
    by_cases hf : f i j = inf
    · exact .inl hf
    · have := h.bd i j hi hj hf
      right; omega
  · rw [mat_len] at hi hj hk
    rw [ent_mat hi hj, ent_mat hj hk, ent_mat hi hk]
    exact h.cl i j k hi hj hk
theorem p_long (l : List Bd) : m_law45_long std l = some (decide (300 < ((l.length : Nat) : Int))) := rfl
theorem pl_BoundsTight (n : Int) (l : List Bd) (_ : -9223372036854775808 ≤ n) (_ : n ≤ 9223372036854775807) : m_law45_BoundsTight std n l = some true := by
  rw [m_law45_BoundsTight_eq, p_awake, p_long]
  by_cases hlong : (300 : Int) < ((l.length : Nat) : Int)
  · rw [decide_eq_true hlong]; rfl
  rw [decide_eq_false hlong]
  rcases p_Valid (n := n) (l := l) (by omega) with ⟨hv, hV⟩ | ⟨hv, hV⟩ <;> rcases p_refValid (n := n) (l := l) (by omega) with ⟨hv', hV'⟩ | ⟨hv', hV'⟩
  · rcases hv.tight with ⟨hc, h1, h2⟩ | ⟨hc, h1, h2⟩
    · have hS := p_Same (n := n.toNat) (by have := hv.n24; omega) (Ti n.toNat l)
      have hC : m_ref45_Closed std (mat n.toNat (Ti n.toNat l)) = some true := by
        rw [p_refClosed, clB_t.2 (clo_clM (by have := hv.n1; omega) (by have := hv.n24; omega) (hv.clo hc))]
      rw [hV', hV, h2, m_bounds_Tight_eq, hV, m_bounds_Consistent_eq, hV]
      simp only [Option.bind_some, Bool.not_true, cond_false, h1]
      simp [hS, hC]
    · rw [hV', hV, h2, m_bounds_Tight_eq, hV, m_bounds_Consistent_eq, hV]
      simp only [Option.bind_some, Bool.not_true, cond_false, h1]
      simp
  · exact absurd hv hv'
  · exact absurd hv' hv
  · rw [hV', hV, m_bounds_Tight_eq, hV, m_bounds_Consistent_eq, hV]
    simp
def outB (n i j : Int) : Bool := decide (i < 0 ∨ n ≤ i ∨ j < 0 ∨ n ≤ j)
theorem out_or (n i j : Int) : (bif (decide (i < 0)) then (some true) else bif (decide (n ≤ i)) then (some true) else bif (decide (j < 0)) then (some true) else (some (decide (n ≤ j))) : Option Bool) = some (outB n i j) := by
  unfold outB
  by_cases h1 : i < 0 <;> by_cases h2 : n ≤ i <;> by_cases h3 : j < 0 <;> by_cases h4 : n ≤ j <;> simp [h1, h2, h3, h4]
theorem outB_f {n i j : Int} (h : outB n i j = false) : (0 ≤ i ∧ i < n) ∧ 0 ≤ j ∧ j < n := by
  have := of_decide_eq_false h; omega
theorem clo_bd2 {n : Nat} {m : Mx} (h : Clo n m) {i j : Nat} (hi : i < n) (hj : j < n) : -(26843545600 : Int) ≤ m i j ∧ m i j ≤ inf := by
  by_cases hf : m i j = inf
  · rw [hf]; unfold inf; omega
  · have := h.bd i j hi hj hf
    unfold inf; omega
theorem p_Between {n : Int} {l : List Bd} (h : Vld n l) (i j : Int) : (Cons n.toNat (M0 l) ∧ m_bounds_Between std n i j l = some (bif outB n i j then (0, 0, 2) else (-(Ti n.toNat l j.toNat i.toNat), Ti n.toNat l i.toNat j.toNat, 0))) ∨ (¬ Cons n.toNat (M0 l) ∧ m_bounds_Between std n i j l = some (bif outB n i j then (0, 0, 2) else (0, 0, 17))) := by
  have hV : m_bounds_Valid std n l = some true := by
    rcases p_Valid (n := n) (l := l) (by have := h.len; omega) with ⟨_, g⟩ | ⟨g, _⟩
    · exact g
    · exact absurd h g
  have e := h.nat
  rcases h.tight with ⟨hc, h1, _⟩ | ⟨hc, h1, _⟩
  · refine .inl ⟨hc, ?_⟩
    rw [m_bounds_Between_eq, hV]
    refine bB rfl (bF rfl (bB (out_or n i j) ?_))
    cases ho : outB n i j with
    | true => rfl
    | false =>
      obtain ⟨⟨i0, i1⟩, j0, j1⟩ := outB_f ho
      refine bF rfl (bB h1 (bF rfl ?_))
      have hi : i.toNat < n.toNat := by omega
      have hj : j.toNat < n.toNat := by omega
      have hb := clo_bd2 (h.clo hc) hj hi
      unfold inf at hb
      simp only [mat_len, mat_row hi, mat_row hj, rw_len, rw_get hi, rw_get hj]
      refine gX (by omega) (gK hj (gX (by omega) (gK hi (gI (by omega) (gX (by omega) (gK hi (gX (by omega) (gK hj ?_))))))))
      rw [Int.zero_sub]; rfl
  · refine .inr ⟨hc, ?_⟩
    rw [m_bounds_Between_eq, hV]
    refine bB rfl (bF rfl (bB (out_or n i j) ?_))
    cases ho : outB n i j with
    | true => rfl
    | false => exact bF rfl (bB h1 (bT rfl rfl))
theorem pl_BoundsBetween (n i j : Int) (l : List Bd) (_ : -9223372036854775808 ≤ n) (_ : n ≤ 9223372036854775807) (_ : -9223372036854775808 ≤ i) (_ : i ≤ 9223372036854775807) (_ : -9223372036854775808 ≤ j) (_ : j ≤ 9223372036854775807) : m_law45_BoundsBetween std n i j l = some true := by
  rw [m_law45_BoundsBetween_eq, p_awake, p_long]
  by_cases hlong : (300 : Int) < ((l.length : Nat) : Int)
  · rw [decide_eq_true hlong]; rfl
  rw [decide_eq_false hlong]
  refine bB rfl (bF rfl ?_)
  rcases p_refValid (n := n) (l := l) (by omega) with ⟨hv, hV'⟩ | ⟨hv, hV'⟩
  · have e := hv.nat
    rcases p_Between hv i j with ⟨hc, h1⟩ | ⟨hc, h1⟩ <;> rcases hv.tight with ⟨hc', _, h2⟩ | ⟨hc', _, h2⟩
    · refine bB h1 (bB hV' (bF rfl (bB h2 (bB (out_or n i j) ?_))))
      cases ho : outB n i j with
      | true => rfl
      | false =>
        obtain ⟨⟨i0, i1⟩, j0, j1⟩ := outB_f ho
        have hi : i.toNat < n.toNat := by omega
        have hj : j.toNat < n.toNat := by omega
        have hb := clo_bd2 (hv.clo hc) hj hi
        unfold inf at hb
        refine bB (v := .inr ()) rfl (bB (v := true) (bT rfl (bT (eT ?_) ?_)) rfl)
        · rw [mat_row hj, rw_get hi, Int.zero_sub]
        · simp only [mat_len, mat_row hi, mat_row hj, rw_len, rw_get hi, rw_get hj]
          refine gX (by omega) (gK hj (gX (by omega) (gK hi (gI (by omega) (gX (by omega) (gK hi (gX (by omega) (gK hj ?_))))))))
          exact congrArg some (eT rfl)
    · exact absurd hc hc'
    · exact absurd hc' hc
    · refine bB h1 (bB hV' (bF rfl (bB h2 (bB (out_or n i j) ?_))))
      cases ho : outB n i j <;> rfl
  · rcases p_Valid (n := n) (l := l) (by omega) with ⟨g, _⟩ | ⟨_, g⟩
    · exact absurd g hv
    · have hB : m_bounds_Between std n i j l = some (0, 0, 1) := by rw [m_bounds_Between_eq, g]; rfl
      exact bB hB (bB hV' rfl)
end Go.Proofs.Ytegmjohhgedakaa
