/-
  Networks of bounds: a schedule that satisfies a network keeps what follows from it.
-/
import Derived.Test.YtegmjohhgedakaaB6
namespace Go.Proofs.Ytegmjohhgedakaa
open Go.RowKit Fw

theorem p_Max {a : List Int} (h1 : 1 ≤ a.length) (h2 : a.length ≤ 1000) : ∃ M, m_slices_Max std a = some M ∧ ∀ j, j < a.length → a.getD j 0 ≤ M := by
  have hi0 : ∃ i : Nat, ((a.getD 0 0, (1 : Int)) : Int × Int).2 = (i : Int) ∧ 1 ≤ i ∧ i ≤ a.length ∧ ∀ j, j < i → a.getD j 0 ≤ ((a.getD 0 0, (1 : Int)) : Int × Int).1 := by
    refine ⟨1, rfl, Nat.le_refl _, h1, fun j hj => ?_⟩
    have : j = 0 := by omega
    subst this
    exact Int.le_refl _
  have key : ∃ e, loop (m_slices_Max_L1 std a) (a.getD 0 0, 1) = some e ∧ ∀ j, j < a.length → a.getD j 0 ≤ e := by
    refine loop_is (fun y => ∃ i : Nat, y.2 = (i : Int) ∧ 1 ≤ i ∧ i ≤ a.length ∧ ∀ j, j < i → a.getD j 0 ≤ y.1) (fun y => a.length - y.2.toNat) _ hi0 (by show a.length - _ < _; omega) ?_
    rintro ⟨m, i0⟩ ⟨i, hi, h3, h4, h5⟩
    have hi : i0 = (i : Int) := hi
    have h5 : ∀ j, j < i → a.getD j 0 ≤ m := h5
    subst hi
    rw [m_slices_Max_L1_eq]
    simp only [toN]
    by_cases hlt : i < a.length
    · refine ⟨_, bT (dT (by omega)) (gX (by omega) (gK hlt (gI (by omega) rfl))), ⟨i + 1, by simp, by omega, by omega, fun j hj => ?_⟩, by show a.length - (_ : Int).toNat < a.length - _; omega⟩
      show a.getD j 0 ≤ (if a.getD i 0 > m then a.getD i 0 else m)
      by_cases e : j = i
      · subst e; split <;> omega
      · have := h5 j (by omega); split <;> omega
    · obtain rfl : i = a.length := by omega
      exact ⟨_, bF (dF (by omega)) rfl, h5⟩
  obtain ⟨e, he, h⟩ := key
  refine ⟨e, ?_, h⟩
  rw [m_slices_Max_eq]
  exact bF (dF (by omega)) (gX (by omega) (gK (by show (0:Int).toNat < a.length; omega) (bB he rfl)))
theorem pl_BoundsKeeps (i j : Int) (l : List Bd) (a : List Int) (hi0 : 0 ≤ i) (hi1 : i ≤ 255) (hj0 : 0 ≤ j) (hj1 : j ≤ 255) : m_law45_BoundsKeeps std i j l a = some true := by
  rw [m_law45_BoundsKeeps_eq, p_awake]
  by_cases hlong : (170 : Int) < ((l.length : Nat) : Int)
  · rw [decide_eq_true hlong]; rfl
  rw [decide_eq_false hlong]
  by_cases hlong2 : (40 : Int) < ((a.length : Nat) : Int)
  · rw [decide_eq_true hlong2]; rfl
  rw [decide_eq_false hlong2]
  refine bB rfl (bF rfl ?_)
  rcases p_Holds (l := l) (a := a) (by omega) (by omega) with ⟨hH, h1⟩ | ⟨hH, h1⟩
  · have h2 := hH.ref (by omega)
    refine bB h1 (bB h2 (bF rfl (bB h1 (bF rfl ?_))))
    have hv := hH.v
    have n1 := hv.n1
    have n24 := hv.n24
    have hok : LOk a.length l := by have := hv.ok; rw [toN] at this; exact this
    obtain ⟨x, ex, hx⟩ := tmod_ix hi0 n1
    obtain ⟨y, ey, hy⟩ := tmod_ix hj0 n1
    rw [toN] at hx hy
    rw [ex, ey]
    obtain ⟨p, hp⟩ : ∃ p : Nat → Int, p = fun k => a.getD k 0 := ⟨_, rfl⟩
    have hpk : ∀ k, a.getD k 0 = p k := fun k => by rw [hp]
    have hpe : ∀ e, e ∈ l → p e.2.1.toNat ≤ p e.1.toNat + e.2.2 := fun e he => by have := hH.ok e he; rw [hpk, hpk] at this; omega
    have hc : Cons a.length (M0 l) := cons_pot hok hpe
    have hc' : Cons ((a.length : Nat) : Int).toNat (M0 l) := by rw [toN]; exact hc
    have hT : m_bounds_Consistent std ((a.length : Nat) : Int) l = some (true, 0) := by
      rw [m_bounds_Consistent_eq]
      rcases hv.tight with ⟨_, g, _⟩ | ⟨c, _⟩
      · exact bB hv.valid (bF rfl (bB g rfl))
      · exact absurd hc' c
    have ho : outB ((a.length : Nat) : Int) (x : Int) (y : Int) = false := dF (by omega)
    have hB : m_bounds_Between std ((a.length : Nat) : Int) (x : Int) (y : Int) l = some (-(Ti a.length l y x), Ti a.length l x y, 0) := by
      rcases p_Between hv (x : Int) (y : Int) with ⟨_, g⟩ | ⟨c, _⟩
      · rw [ho, toN, toN, toN] at g
        exact g
      · exact absurd hc' c
    have lo : ∀ {u v : Nat}, u < a.length → v < a.length → Ti a.length l u v ≠ inf → p v - p u ≤ Ti a.length l u v := fun hu hv hf =>
      ti_max hok (pot_cl _ p) (fun i _ => by show p i - p i ≤ 0; omega) (fun e he => by show p _ - p _ ≤ _; have := hpe e he; omega) hu hv hf
    have bd : ∀ {u}, u < a.length → -4398046511104 ≤ p u ∧ p u ≤ 4398046511104 := fun hu => by have := hH.bd _ hu; rw [hpk] at this; exact this
    have bx := bd hx
    have byy := bd hy
    refine bB hT (gI (by omega) (gZ (by omega) (gI (by omega) (bB hB (bB (v := false) rfl (bF rfl ?_))))))
    simp only [toN, hpk]
    refine gX (by omega) (gK hy (gX (by omega) (gK hx (gI (by omega) (bB (v := false) ?_ (bF rfl ?_))))))
    · have q2 : (bif (!(Ti a.length l x y == 4398046511104)) then (some (decide (Ti a.length l x y < p y - p x))) else (some false) : Option Bool) = some false := by
        by_cases hf : Ti a.length l x y = inf
        · exact bF (nF (eT hf)) rfl
        · have := lo hx hy hf
          exact bT (nT (eF hf)) (congrArg some (dF (by omega)))
      by_cases hf : Ti a.length l y x = inf
      · exact bF (nF (eT (by rw [hf]; rfl))) q2
      · have := lo hy hx hf
        have hne : -(Ti a.length l y x) ≠ -4398046511104 := fun h => hf (by unfold inf; omega)
        exact bT (nT (eF hne)) (bF (dF (by omega)) q2)
    · have z0 : (0 : Int).toNat = 0 := rfl
      rw [z0]
      refine gX (by omega) (gK (by omega) ?_)
      by_cases hp0 : p 0 = 0
      · refine bF (nF (eT hp0)) ?_
        have hE : ∃ r, m_bounds_Earliest std ((a.length : Nat) : Int) l = some r ∧ ((r.2 == 0) = false ∨ ((r.2 == 0) = true ∧ r.1 = rw' a.length (fun j => -(Ti a.length l j 0)) ∧ ∀ j, j < a.length → Ti a.length l j 0 ≠ inf)) := by
          rcases p_Earliest hv with ⟨c, _⟩ | ⟨_, _, g⟩ | ⟨_, g1, g⟩
          · exact absurd hc' c
          · exact ⟨_, g, .inl rfl⟩
          · rw [toN] at g g1
            exact ⟨_, g, .inr ⟨rfl, rfl, g1⟩⟩
        obtain ⟨⟨r1, r2⟩, hE, hr⟩ := hE
        obtain ⟨M, hM, hmx⟩ := p_Max (a := a) (by omega) (by omega)
        refine bB hE (bB (v := .inr ()) ?_ (bB hM ?_))
        · rcases hr with hr | ⟨hr, hr1, hr2⟩
          · exact bF hr rfl
          · have hr1 : r1 = rw' a.length (fun j => -(Ti a.length l j 0)) := hr1
            refine bT hr (bB (v := .inr ()) ?_ rfl)
            rw [hr1]
            refine loop_to' (n := a.length) (fun k => (k : Int)) (by omega) (fun k hk => ?_) ?_
            · rw [m_law45_BoundsKeeps_L1_eq]
              simp only [toN, rw_len, rw_get hk, hpk]
              have := lo hk (show 0 < a.length by omega) (hr2 k hk)
              exact bT (dT (by omega)) (gX (by omega) (gK hk (bB (v := false) (bF (dF (by omega)) (gX (by omega) (gK hk (congrArg some (dF (by omega)))))) (gI (by omega) rfl))))
            · rw [m_law45_BoundsKeeps_L1_eq]
              simp only [rw_len]
              exact bF (dF (by omega)) rfl
        · rcases p_Latest hv M with ⟨ho2, hL⟩ | ⟨hz, ho2, c, _⟩ | ⟨hz, ho2, hc2, hL⟩
          · refine bB hL (bB (off_or M) ?_)
            rw [ho2]; rfl
          · exfalso
            rw [toN] at c
            refine c (cons_pot (endL_ok hok (by omega) hz) (p := p) fun e he => ?_)
            rcases endL_mem.1 he with g | ⟨k, hk, rfl⟩
            · exact hpe e g
            · have := hmx k hk
              rw [hpk] at this
              simp
              omega
          · rw [toN] at hL hc2
            have hpe2 : ∀ e, e ∈ endL a.length l M a.length → p e.2.1.toNat ≤ p e.1.toNat + e.2.2 := fun e he => by
              rcases endL_mem.1 he with g | ⟨k, hk, rfl⟩
              · exact hpe e g
              · have := hmx k hk
                rw [hpk] at this
                simp
                omega
            refine bB hL (bB (off_or M) ?_)
            rw [ho2]
            refine bF rfl (bB (v := false) (bF rfl (congrArg some (nF (eT (by rw [rw_len]))))) (bF rfl (bB (v := .inr ()) ?_ rfl)))
            refine loop_to' (n := a.length) (fun k => (k : Int)) (by omega) (fun k hk => ?_) ?_
            · rw [m_law45_BoundsKeeps_L2_eq]
              simp only [toN, rw_len, rw_get hk, hpk]
              have hup : Ti a.length (endL a.length l M a.length) 0 k ≤ M := by
                have := ti_edge (n := a.length) (endL_mem (n := a.length) (l := l) (z := M) (k := a.length).2 (.inr ⟨k, hk, rfl⟩))
                simpa using this
              have : p k - p 0 ≤ Ti a.length (endL a.length l M a.length) 0 k :=
                ti_max (endL_ok hok (by omega) hz) (pot_cl _ p) (fun i _ => by show p i - p i ≤ 0; omega) (fun e he => by show p _ - p _ ≤ _; have := hpe2 e he; omega) (by omega) hk (by unfold inf; omega)
              exact bT (dT (by omega)) (gX (by omega) (gK hk (gX (by omega) (gK hk (bF (dF (by omega)) (gI (by omega) rfl))))))
            · rw [m_law45_BoundsKeeps_L2_eq]
              simp only [rw_len]
              exact bF (dF (by omega)) rfl
      · exact bT (nT (eF hp0)) rfl
  · rcases p_refHolds (l := l) (a := a) (by omega) (by omega) with ⟨g, _⟩ | ⟨_, h2⟩
    · exact absurd g hH
    · exact bB h1 (bB h2 (bF rfl (bB h1 rfl)))
end Go.Proofs.Ytegmjohhgedakaa
