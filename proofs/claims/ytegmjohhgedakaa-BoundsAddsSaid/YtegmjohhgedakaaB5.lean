/-
  Networks of bounds: the law of the schedules.
-/
import Derived.Test.YtegmjohhgedakaaB4
namespace Go.Proofs.Ytegmjohhgedakaa
open Go.RowKit Fw

theorem Vld.rvalid {n : Int} {l : List Bd} (h : Vld n l) : m_ref45_Valid std n l = some true := by
  rcases p_refValid (n := n) (l := l) (by have := h.len; omega) with ⟨_, g⟩ | ⟨g, _⟩
  · exact g
  · exact absurd h g
/-- the earliest times satisfy the network -/
theorem early_hd {n : Int} {l : List Bd} (h : Vld n l) (hc : Cons n.toNat (M0 l)) (hf : ∀ j, j < n.toNat → Ti n.toNat l j 0 ≠ inf) : Hd l (rw' n.toNat fun j => -(Ti n.toNat l j 0)) := by
  have e := h.nat
  have hC := h.clo hc
  have h1 := h.n1
  refine ⟨?_, fun i hi => ?_, fun b hb => ?_⟩
  · rw [rw_len, ← e]; exact h
  · rw [rw_len] at hi
    rw [rw_get hi]
    have := hC.bd i 0 hi (by omega) (hf i hi)
    omega
  · have hk := h.ok b hb
    have i0 := hk.i0; have i1 := hk.i1; have j0 := hk.j0; have j1 := hk.j1
    have w1 := hk.w1
    have hi : b.1.toNat < n.toNat := by omega
    have hj : b.2.1.toNat < n.toNat := by omega
    rw [rw_get hi, rw_get hj]
    have ht := ti_edge (n := n.toNat) hb
    have hT : Ti n.toNat l b.1.toNat b.2.1.toNat ≠ inf := by unfold C at w1; unfold inf; omega
    have := hC.cl b.1.toNat b.2.1.toNat 0 hi hj (by omega) hT (hf _ hj)
    omega
/-- the latest times satisfy the network -/
theorem late_hd {n : Int} {l : List Bd} (h : Vld n l) {z : Int} (hz : 0 ≤ z ∧ z ≤ 1073741824) (hc : Cons n.toNat (M0 (endL n.toNat l z n.toNat))) :
    Hd l (rw' n.toNat (Ti n.toNat (endL n.toNat l z n.toNat) 0)) ∧ ∀ j, j < n.toNat → -(26843545600 : Int) ≤ Ti n.toNat (endL n.toNat l z n.toNat) 0 j ∧ Ti n.toNat (endL n.toNat l z n.toNat) 0 j ≤ z := by
  have e := h.nat
  have h1 := h.n1
  have hok := endL_ok h.ok (by omega) hz
  have hC := ti_clo hok (by have := h.n24; omega) hc
  have hup : ∀ j, j < n.toNat → Ti n.toNat (endL n.toNat l z n.toNat) 0 j ≤ z := fun j hj => by
    have := ti_edge (n := n.toNat) (endL_mem (n := n.toNat) (l := l) (z := z).2 (.inr ⟨j, hj, rfl⟩))
    simpa using this
  have hfin : ∀ j, j < n.toNat → Ti n.toNat (endL n.toNat l z n.toNat) 0 j ≠ inf := fun j hj => by have := hup j hj; unfold inf; omega
  have hlo : ∀ j, j < n.toNat → -(26843545600 : Int) ≤ Ti n.toNat (endL n.toNat l z n.toNat) 0 j := fun j hj => (hC.bd 0 j (by omega) hj (hfin j hj)).1
  refine ⟨⟨?_, fun i hi => ?_, fun b hb => ?_⟩, fun j hj => ⟨hlo j hj, hup j hj⟩⟩
  · rw [rw_len, ← e]; exact h
  · rw [rw_len] at hi
    rw [rw_get hi]
    have := hup i hi
    have := hlo i hi
    omega
  · have hk := h.ok b hb
    have i0 := hk.i0; have i1 := hk.i1; have j0 := hk.j0; have j1 := hk.j1
    have w1 := hk.w1
    have hi : b.1.toNat < n.toNat := by omega
    have hj : b.2.1.toNat < n.toNat := by omega
    rw [rw_get hi, rw_get hj]
    have ht := ti_edge (n := n.toNat) (endL_mem (n := n.toNat) (l := l) (z := z) (k := n.toNat).2 (.inl hb))
    have hT : Ti n.toNat (endL n.toNat l z n.toNat) b.1.toNat b.2.1.toNat ≠ inf := by unfold C at w1; unfold inf; omega
    have := hC.cl 0 b.1.toNat b.2.1.toNat (by omega) hi hj (hfin _ hi) hT
    omega
theorem Hd.ref {l : List Bd} {a : List Int} (h : Hd l a) (ha : a.length ≤ 1000) : m_ref45_Holds std l a = some true := by
  rcases p_refHolds (l := l) (a := a) (by have := h.v.len; omega) ha with ⟨_, g⟩ | ⟨g, _⟩
  · exact g
  · exact absurd h g
/-- is there a number that is not bounded? -/
def anyInf (n : Nat) (f : Mx) : Bool := (List.range n).any fun i => f i 0 == inf
theorem p_anyInf {n : Nat} (hn : 1 ≤ n) (hn2 : n ≤ 24) (f : Mx) : m_slices_ContainsFunc_3 std (mat n f) = some (anyInf n f) := by
  rw [m_slices_ContainsFunc_3_eq, m_slices_IndexFunc_3_eq]
  refine contains (n := n) _ (by omega) (fun i hi => ?_) ?_
  · rw [m_slices_IndexFunc_3_L1_eq]
    simp only [toN, mat_len, mat_row hi]
    refine bT (dT (by omega)) (gX (by omega) (gK hi (bB (v := (f i 0 == inf)) ?_ ?_)))
    · rw [m_law45_BoundsSchedules_1_eq]
      have z0 : (0 : Int).toNat = 0 := rfl
      rw [z0, rw_len, rw_get (by omega)]
      exact gX (by omega) (gK (by omega) rfl)
    · cases (f i 0 == inf) with
      | true => rfl
      | false => exact gI (by omega) rfl
  · rw [m_slices_IndexFunc_3_L1_eq]
    simp only [mat_len]
    exact bF (dF (by omega)) rfl
theorem p_sched {m : Nat} (h1 : 1 ≤ m) (h24 : m ≤ 24) {f : Mx} (hC : Clo m f) : loop (m_law45_BoundsSchedules_L1 std (rw' m fun j => -(f j 0)) (mat m f)) 0 = some (.inr ()) := by
  refine loop_to' (n := m) (fun j => (j : Int)) (by omega) (fun j hj => ?_) ?_
  · rw [m_law45_BoundsSchedules_L1_eq]
    have z0 : (0 : Int).toNat = 0 := rfl
    simp only [toN, mat_len, mat_row hj, rw_len, rw_get hj, z0, rw_get (show 0 < m by omega)]
    have := clo_bd2 hC hj (show 0 < m by omega)
    unfold inf at this
    exact bT (dT (by omega)) (gX (by omega) (gK hj (gX (by omega) (gK hj (gX (by omega) (gK (by omega) (gI (by omega) (bF (nF (eT (by omega))) (gI (by omega) rfl)))))))))
  · rw [m_law45_BoundsSchedules_L1_eq]
    simp only [rw_len]
    exact bF (dF (by omega)) rfl
theorem pl_BoundsSchedules (n z : Int) (l : List Bd) (_ : -9223372036854775808 ≤ n) (_ : n ≤ 9223372036854775807) (_ : -9223372036854775808 ≤ z) (_ : z ≤ 9223372036854775807) : m_law45_BoundsSchedules std n z l = some true := by
  rw [m_law45_BoundsSchedules_eq, p_awake]
  by_cases hlong : (170 : Int) < ((l.length : Nat) : Int)
  · rw [decide_eq_true hlong]; rfl
  rw [decide_eq_false hlong]
  refine bB rfl (bF rfl ?_)
  rcases Classical.em (Vld n l) with hv | hv
  · have e := hv.nat
    have h1 := hv.n1
    have h24 := hv.n24
    have hEn : m_ref45_Ended std n z l = some (endL n.toNat l z n.toNat) := by
      have := p_Ended (n := n.toNat) (l := l) (by omega) (by omega) z
      rw [← e] at this
      exact this
    rcases p_Earliest hv with ⟨hc, hE⟩ | ⟨hc, hx, hE⟩ | ⟨hc, hx, hE⟩
    · have hT : m_ref45_Tight std n l = some ([], false) := by
        rcases hv.tight with ⟨c, _, _⟩ | ⟨_, _, g⟩
        · exact absurd c hc
        · exact g
      rcases p_Latest hv z with ⟨ho, hL⟩ | ⟨hz, ho, hc2, hL⟩ | ⟨hz, ho, hc2, hL⟩
      · refine bB hE (bB hL (bB hv.rvalid (bF rfl (bB hT (bB (v := .inr ()) ?_ ?_)))))
        · exact rfl
        · refine bB (off_or z) ?_
          exact by rw [ho]; rfl
      · have hT2 : m_ref45_Tight std n (endL n.toNat l z n.toNat) = some ([], false) := by
          rcases p_refTight (n := n.toNat) (endL_ok hv.ok (by omega) hz) (by rw [endL_len]; omega) (by omega) (by omega) with ⟨c, _⟩ | ⟨_, g⟩
          · exact absurd c hc2
          · rw [← e] at g; exact g
        refine bB hE (bB hL (bB hv.rvalid (bF rfl (bB hT (bB (v := .inr ()) ?_ ?_)))))
        · exact rfl
        · refine bB (off_or z) ?_
          exact by
            rw [ho]
            exact bF rfl (bB hEn (bB hT2 rfl))
      · have hT2 : m_ref45_Tight std n (endL n.toNat l z n.toNat) = some (mat n.toNat (Ti n.toNat (endL n.toNat l z n.toNat)), true) := by
          rcases p_refTight (n := n.toNat) (endL_ok hv.ok (by omega) hz) (by rw [endL_len]; omega) (by omega) (by omega) with ⟨_, g⟩ | ⟨c, _⟩
          · rw [← e] at g; exact g
          · exact absurd hc2 c
        refine bB hE (bB hL (bB hv.rvalid (bF rfl (bB hT (bB (v := .inr ()) ?_ ?_)))))
        · exact rfl
        · refine bB (off_or z) ?_
          exact by
            rw [ho]
            refine bF rfl (bB hEn (bB hT2 (bF rfl (bB (v := true) (bT rfl (bB ((late_hd hv hz hc2).1.ref (by rw [rw_len]; omega)) (bT rfl ?_))) rfl))))
            have z0 : (0 : Int).toNat = 0 := rfl
            simp only [z0, mat_len, mat_row (show 0 < n.toNat by omega)]
            exact gX (by omega) (gK (by omega) (bB (p_Equal _ (by rw [rw_len]; omega)) rfl))
    · have hT : m_ref45_Tight std n l = some (mat n.toNat (Ti n.toNat l), true) := by
        rcases hv.tight with ⟨_, _, g⟩ | ⟨c, _, _⟩
        · exact g
        · exact absurd hc c
      have hA : m_slices_ContainsFunc_3 std (mat n.toNat (Ti n.toNat l)) = some true := by
        rw [p_anyInf (by omega) (by omega)]
        obtain ⟨j, hj, g⟩ := hx
        exact congrArg some (any_t.2 ⟨j, hj, eT g⟩)
      rcases p_Latest hv z with ⟨ho, hL⟩ | ⟨hz, ho, hc2, hL⟩ | ⟨hz, ho, hc2, hL⟩
      · refine bB hE (bB hL (bB hv.rvalid (bF rfl (bB hT (bB (v := .inr ()) ?_ ?_)))))
        · exact bF rfl (bB hA rfl)
        · refine bB (off_or z) ?_
          exact by rw [ho]; rfl
      · have hT2 : m_ref45_Tight std n (endL n.toNat l z n.toNat) = some ([], false) := by
          rcases p_refTight (n := n.toNat) (endL_ok hv.ok (by omega) hz) (by rw [endL_len]; omega) (by omega) (by omega) with ⟨c, _⟩ | ⟨_, g⟩
          · exact absurd c hc2
          · rw [← e] at g; exact g
        refine bB hE (bB hL (bB hv.rvalid (bF rfl (bB hT (bB (v := .inr ()) ?_ ?_)))))
        · exact bF rfl (bB hA rfl)
        · refine bB (off_or z) ?_
          exact by
            rw [ho]
            exact bF rfl (bB hEn (bB hT2 rfl))
      · have hT2 : m_ref45_Tight std n (endL n.toNat l z n.toNat) = some (mat n.toNat (Ti n.toNat (endL n.toNat l z n.toNat)), true) := by
          rcases p_refTight (n := n.toNat) (endL_ok hv.ok (by omega) hz) (by rw [endL_len]; omega) (by omega) (by omega) with ⟨_, g⟩ | ⟨c, _⟩
          · rw [← e] at g; exact g
          · exact absurd hc2 c
        refine bB hE (bB hL (bB hv.rvalid (bF rfl (bB hT (bB (v := .inr ()) ?_ ?_)))))
        · exact bF rfl (bB hA rfl)
        · refine bB (off_or z) ?_
          exact by
            rw [ho]
            refine bF rfl (bB hEn (bB hT2 (bF rfl (bB (v := true) (bT rfl (bB ((late_hd hv hz hc2).1.ref (by rw [rw_len]; omega)) (bT rfl ?_))) rfl))))
            have z0 : (0 : Int).toNat = 0 := rfl
            simp only [z0, mat_len, mat_row (show 0 < n.toNat by omega)]
            exact gX (by omega) (gK (by omega) (bB (p_Equal _ (by rw [rw_len]; omega)) rfl))
    · have hT : m_ref45_Tight std n l = some (mat n.toNat (Ti n.toNat l), true) := by
        rcases hv.tight with ⟨_, _, g⟩ | ⟨c, _, _⟩
        · exact g
        · exact absurd hc c
      have hA : m_slices_ContainsFunc_3 std (mat n.toNat (Ti n.toNat l)) = some false := by
        rw [p_anyInf (by omega) (by omega)]
        exact congrArg some (any_f.2 fun j hj => eF (hx j hj))
      have hSc := p_sched (m := n.toNat) (by omega) (by omega) (hv.clo hc)
      rcases p_Latest hv z with ⟨ho, hL⟩ | ⟨hz, ho, hc2, hL⟩ | ⟨hz, ho, hc2, hL⟩
      · refine bB hE (bB hL (bB hv.rvalid (bF rfl (bB hT (bB (v := .inr ()) ?_ ?_)))))
        · exact bF rfl (bB hA (bB (v := .inr ()) (bF rfl (bB (v := false) (bF (nF rfl) (bF (nF (eT (by rw [rw_len]; omega))) (bB ((early_hd hv hc hx).ref (by rw [rw_len]; omega)) rfl))) (bF rfl (bB hSc rfl)))) rfl))
        · refine bB (off_or z) ?_
          exact by rw [ho]; rfl
      · have hT2 : m_ref45_Tight std n (endL n.toNat l z n.toNat) = some ([], false) := by
          rcases p_refTight (n := n.toNat) (endL_ok hv.ok (by omega) hz) (by rw [endL_len]; omega) (by omega) (by omega) with ⟨c, _⟩ | ⟨_, g⟩
          · exact absurd c hc2
          · rw [← e] at g; exact g
        refine bB hE (bB hL (bB hv.rvalid (bF rfl (bB hT (bB (v := .inr ()) ?_ ?_)))))
        · exact bF rfl (bB hA (bB (v := .inr ()) (bF rfl (bB (v := false) (bF (nF rfl) (bF (nF (eT (by rw [rw_len]; omega))) (bB ((early_hd hv hc hx).ref (by rw [rw_len]; omega)) rfl))) (bF rfl (bB hSc rfl)))) rfl))
        · refine bB (off_or z) ?_
          exact by
            rw [ho]
            exact bF rfl (bB hEn (bB hT2 rfl))
      · have hT2 : m_ref45_Tight std n (endL n.toNat l z n.toNat) = some (mat n.toNat (Ti n.toNat (endL n.toNat l z n.toNat)), true) := by
          rcases p_refTight (n := n.toNat) (endL_ok hv.ok (by omega) hz) (by rw [endL_len]; omega) (by omega) (by omega) with ⟨_, g⟩ | ⟨c, _⟩
          · rw [← e] at g; exact g
          · exact absurd hc2 c
        refine bB hE (bB hL (bB hv.rvalid (bF rfl (bB hT (bB (v := .inr ()) ?_ ?_)))))
        · exact bF rfl (bB hA (bB (v := .inr ()) (bF rfl (bB (v := false) (bF (nF rfl) (bF (nF (eT (by rw [rw_len]; omega))) (bB ((early_hd hv hc hx).ref (by rw [rw_len]; omega)) rfl))) (bF rfl (bB hSc rfl)))) rfl))
        · refine bB (off_or z) ?_
          exact by
            rw [ho]
            refine bF rfl (bB hEn (bB hT2 (bF rfl (bB (v := true) (bT rfl (bB ((late_hd hv hz hc2).1.ref (by rw [rw_len]; omega)) (bT rfl ?_))) rfl))))
            have z0 : (0 : Int).toNat = 0 := rfl
            simp only [z0, mat_len, mat_row (show 0 < n.toNat by omega)]
            exact gX (by omega) (gK (by omega) (bB (p_Equal _ (by rw [rw_len]; omega)) rfl))
  · rcases p_refValid (n := n) (l := l) (by omega) with ⟨g, _⟩ | ⟨_, g⟩
    · exact absurd g hv
    · exact bB (not_Earliest (by omega) hv) (bB (not_Latest (by omega) hv z) (bB g rfl))
end Go.Proofs.Ytegmjohhgedakaa
