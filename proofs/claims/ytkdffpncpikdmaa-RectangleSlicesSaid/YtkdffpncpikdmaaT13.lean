/-
  Rectangles: the sets at one time, and with both times changed.
-/
import Derived.Test.YtkdffpncpikdmaaT12
namespace Go.Proofs.Ytkdffpncpikdmaa
open Go.RowKit

theorem Can.mono {l : List Sp} (h : Can l) {j k : Nat} (hjk : j ≤ k) (hk : k < l.length) : fr l j ≤ fr l k ∧ tt l j ≤ tt l k := by
  by_cases e : j = k
  · subst e; exact ⟨Int.le_refl _, Int.le_refl _⟩
  · have := h.lt (show j < k by omega) hk
    have := h.ne' hk
    have := h.ne' (show j < l.length by omega)
    omega
theorem p_runs_search_1 (a b r : Int) : m_runs_search_1 std a b r = some (if b ≤ r then -1 else 1) := by
  rw [m_runs_search_1_eq]
  by_cases h : b ≤ r
  · rw [if_pos h]; exact bT (dT h) rfl
  · rw [if_neg h]; exact bF (dF h) rfl
theorem p_slices_BinarySearchFunc {l : List Sp} (h : Can l) (hl : l.length ≤ 1000000) (r : Int) : ∃ (i : Nat) (b : Bool), m_slices_BinarySearchFunc std r l = some ((i : Int), b) ∧ i ≤ l.length ∧ (∀ k, k < i → tt l k ≤ r) ∧ (i < l.length → r < tt l i) := by
  have hloop := loop_is (B := m_slices_BinarySearchFunc_L1 std r l) (y := (0, ((l.length : Nat) : Int))) (fun y => ∃ i j : Nat, y.1 = (i : Int) ∧ y.2 = (j : Int) ∧ i ≤ j ∧ j ≤ l.length ∧ (∀ k, k < i → tt l k ≤ r) ∧ ∀ k, j ≤ k → k < l.length → r < tt l k)
    (fun y => (y.2 - y.1).toNat) (fun e => ∃ i : Nat, e = (i : Int) ∧ i ≤ l.length ∧ (∀ k, k < i → tt l k ≤ r) ∧ ∀ k, i ≤ k → k < l.length → r < tt l k)
    ⟨0, l.length, rfl, rfl, by omega, by omega, fun k hk => by omega, fun k h1 h2 => by omega⟩ (by simp only []; omega) (by
      rintro ⟨x, z⟩ ⟨i, j, h1, h2, hij, hj, ha, hb⟩
      change x = (i : Int) at h1
      change z = (j : Int) at h2
      subst h1; subst h2
      have e1 : ((i : Int) + (j : Int)) / 2 ^ (Int.toNat 1) = (((i + j) / 2 : Nat) : Int) := by
        show ((i : Int) + (j : Int)) / 2 = _
        rw [← Int.natCast_add]; exact (Int.natCast_ediv (i + j) 2).symm
      rw [m_slices_BinarySearchFunc_L1_eq, e1]
      simp only [Int.toNat_natCast, fr_def, tt_def]
      rw [p_runs_search_1]
      by_cases hlt : i < j
      · have hm1 : i ≤ (i + j) / 2 := by omega
        have hm2 : (i + j) / 2 < j := by omega
        obtain ⟨m, hm⟩ : ∃ m, (i + j) / 2 = m := ⟨_, rfl⟩
        rw [hm] at hm1 hm2 ⊢
        by_cases hc : tt l m ≤ r
        · rw [if_pos hc]
          refine ⟨.inl (((m + 1 : Nat) : Int), (j : Int)), ?_, ⟨m + 1, j, rfl, rfl, by omega, hj, fun k hk => ?_, hb⟩, by simp only []; omega⟩
          · exact bT (dT (by omega)) (gI (by omega) (gU (by omega) (gX (by omega) (gI (by omega) (gX (by omega) (gK (by omega) (bB rfl (bB (bT rfl (gI (by omega) rfl)) rfl))))))))
          · have := (h.mono (show k ≤ m by omega) (by omega)).2
            omega
        · rw [if_neg hc]
          refine ⟨.inl ((i : Int), (m : Int)), ?_, ⟨i, m, rfl, rfl, by omega, by omega, ha, fun k h1 h2 => ?_⟩, by simp only []; omega⟩
          · exact bT (dT (by omega)) (gI (by omega) (gU (by omega) (gX (by omega) (gI (by omega) (gX (by omega) (gK (by omega) (bB rfl (bB (bF rfl rfl) rfl))))))))
          · have := (h.mono h1 h2).2
            omega
      · exact ⟨.inr (i : Int), bF (dF (by omega)) rfl, i, rfl, by omega, ha, fun k h1 h2 => hb k (by omega) h2⟩)
  obtain ⟨e, he, i, rfl, h1, h2, h3⟩ := hloop
  rw [m_slices_BinarySearchFunc_eq, he]
  by_cases hlt : i < l.length
  · refine ⟨i, (if tt l i ≤ r then (-1 : Int) else 1) == 0, bB rfl (bB (bT (dT (by omega)) (gX (by omega) (gK (by omega) ?_))) rfl), h1, h2, fun h => h3 i (Nat.le_refl _) h⟩
    simp only [Int.toNat_natCast, fr_def, tt_def]
    exact bB (p_runs_search_1 _ _ _) rfl
  · exact ⟨i, false, bB rfl (bB (bF (dF (by omega)) rfl) rfl), h1, h2, fun h => absurd h hlt⟩
theorem p_runs_Has {l : List Sp} (h : Can l) (hl : Line l) (hn : l.length ≤ 2000) (x : Int) : m_runs_Has std x l = some (memB l x) := by
  obtain ⟨i, b, e, i1, i2, i3⟩ := p_slices_BinarySearchFunc h (by omega) x
  have hs : m_runs_search std x l = some (i : Int) := by rw [m_runs_search_eq, e]; rfl
  have hv : m_runs_Valid std l = some true := by rw [p_runs_Valid', dT hn, canB_iff.2 ⟨h, hl⟩]; rfl
  rw [m_runs_Has_eq]
  refine bB hv (bF rfl (bB hs ?_))
  by_cases hlt : i < l.length
  · have hi3 := i3 hlt
    refine bB (v := memB l x) (bT (dT (by omega)) (gX (by omega) (gK (by omega) ?_))) rfl
    simp only [Int.toNat_natCast, fr_def]
    congr 1
    by_cases hf : fr l i ≤ x
    · exact (decide_eq_true hf).trans (memB_iff.2 (mem_idx.2 ⟨i, hlt, hf, hi3⟩)).symm
    · refine (decide_eq_false hf).trans (memB_false.2 fun hm => ?_).symm
      obtain ⟨j, hj, a, b⟩ := mem_idx.1 hm
      rcases Nat.lt_or_ge j i with h5 | h5
      · have := i2 j h5; omega
      · have := (h.mono h5 hj).1; omega
  · refine bB (v := memB l x) (bF (dF (by omega)) (congrArg some ?_)) rfl
    refine (memB_false.2 fun hm => ?_).symm
    obtain ⟨j, hj, a, b⟩ := mem_idx.1 hm
    have := i2 j (by omega)
    omega
/-- both times change places -/
def tuR (r : Rc) : Rc := (r.2.2.1, r.2.2.2, r.1, r.2.1)
theorem tuR_tuR (r : Rc) : tuR (tuR r) = r := rfl
theorem tu_valid {l : List Rc} (h : lvB l = true) : lvB (l.map tuR) = true := by
  rw [lvB_iff] at h ⊢
  intro r hr
  obtain ⟨q, hq, rfl⟩ := List.mem_map.1 hr
  have := h q hq
  exact ⟨this.2, this.1⟩
theorem tu_inL (l : List Rc) (x t : Int) : inL (l.map tuR) x t = inL l t x := by
  unfold inL
  rw [List.any_map]
  congr 1
  funext r
  show inR (tuR r) x t = inR r t x
  rw [Bool.eq_iff_iff]
  unfold inR tuR
  simp only [Bool.and_eq_true, decide_eq_true_eq]
  omega
theorem p_rectangle_During_L1 {l : List Rc} (hl : l.length ≤ 1000000) : loop (m_rectangle_During_L1 std l) (0, ([] : List Rc)) = some (l.map tuR) := by
  have h := loop_up (B := m_rectangle_During_L1 std l) (n := l.length) (fun i => (l.take i).map tuR) (e := l.map tuR) (by omega) (fun i hi => by
    have eg : l.getD i (0, 0, 0, 0) = l[i] := by rw [List.getD_eq_getElem?_getD, List.getElem?_eq_getElem hi]; rfl
    rw [m_rectangle_During_L1_eq]
    simp only [Int.toNat_natCast, eg]
    refine bT (dT (by omega)) (gX (by omega) (gK hi (gR (by simp; omega) (gR (by simp) (gI (by omega) ?_)))))
    rw [List.take_succ_eq_append_getElem hi, List.map_append]; rfl) (by
    rw [m_rectangle_During_L1_eq, List.take_length]
    exact bF (dF (by omega)) rfl)
  exact h
theorem p_law35_RectangleSlices_L1 {l : List Rc} (hl : l.length ≤ 1000000) : loop (m_law35_RectangleSlices_L1 std l) (0, ([] : List Rc)) = some (l.map tuR) := by
  have h := loop_up (B := m_law35_RectangleSlices_L1 std l) (n := l.length) (fun i => (l.take i).map tuR) (e := l.map tuR) (by omega) (fun i hi => by
    have eg : l.getD i (0, 0, 0, 0) = l[i] := by rw [List.getD_eq_getElem?_getD, List.getElem?_eq_getElem hi]; rfl
    rw [m_law35_RectangleSlices_L1_eq]
    simp only [Int.toNat_natCast, eg]
    refine bT (dT (by omega)) (gX (by omega) (gK hi (gR (by simp; omega) (gR (by simp) (gI (by omega) ?_)))))
    rw [List.take_succ_eq_append_getElem hi, List.map_append]; rfl) (by
    rw [m_law35_RectangleSlices_L1_eq, List.take_length]
    exact bF (dF (by omega)) rfl)
  exact h
theorem chk0_ok {l : List Rc} (h : lvB l = true) (hl : l.length ≤ 500) : chk0 l = 0 := by unfold chk0; rw [if_pos h, if_pos hl]
theorem p_rAt {l : List Rc} (h : lvB l = true) (hl : l.length ≤ 500) (t : Int) : m_rectangle_At std t l = some (tS l t) := by
  rw [m_rectangle_At_eq]
  exact bB (p_check_2 l (by omega)) (bF (nF (eT (chk0_ok h hl))) (bB (p_times h (by omega) t) rfl))
theorem p_rDuring {l : List Rc} (h : lvB l = true) (hl : l.length ≤ 500) (x : Int) : m_rectangle_During std x l = some (tS (l.map tuR) x) := by
  rw [m_rectangle_During_eq]
  exact bB (p_check_2 l (by omega)) (bF (nF (eT (chk0_ok h hl))) (bB (p_rectangle_During_L1 (by omega)) (bB (p_times (tu_valid h) (by simp; omega) x) rfl)))
theorem pl_RectangleSlices (valid tx : Int) (l : List Rc) : m_law35_RectangleSlices std valid tx l = some true := by
  rw [m_law35_RectangleSlices_eq]
  refine bB p_awake (bF rfl ?_)
  by_cases h : l.length ≤ 30 ∧ lvB l = true
  · obtain ⟨la, va⟩ := h
    have vt := tu_valid va
    have lt : (l.map tuR).length ≤ 30 := by simp; omega
    have tt2 : (l.map tuR).map tuR = l := by
      rw [List.map_map]
      have : tuR ∘ tuR = id := by funext r; exact tuR_tuR r
      rw [this, List.map_id]
    have c1 := tS_time va tx
    have c2 := tS_time vt valid
    have n1 := tS_len va tx
    have n2 := tS_len vt valid
    have vd : ∀ {s : List Sp}, TimeL s → s.length ≤ 2000 → m_runs_Valid std s = some true := fun {s} hs hn => by
      rw [p_runs_Valid', dT hn, canB_iff.2 ⟨hs.can, hs.onLine⟩]; rfl
    refine bB (v := false) (bB (p_few l) (bF (by rw [dT la]; rfl) (bB (p_ref35_List l (by omega)) (by rw [va]; rfl)))) (bF rfl ?_)
    refine bB (p_law35_RectangleSlices_L1 (by omega)) (bB (p_rAt va (by omega) tx) (bB (p_rDuring va (by omega) valid) ?_))
    have hd := p_rDuring vt (by omega) tx
    rw [tt2] at hd
    refine bB (v := false) (bB (vd c1 (by omega)) (bF rfl (bB (vd c2 (by omega)) (bF rfl (bB hd (bB (p_slices_Equal _ _ (by omega)) (bF (by rw [dT rfl]; rfl) (bB (p_rAt vt (by omega) valid) (bB (p_slices_Equal _ _ (by omega)) (by rw [dT rfl]; rfl)))))))))) (bF rfl ?_)
    refine bB (p_in l (by omega) valid tx) ?_
    have h1 := p_runs_Has c1.can c1.onLine (by omega) valid
    rw [tS_memB va] at h1
    have h2 := p_runs_Has c2.can c2.onLine (by omega) tx
    rw [tS_memB vt, tu_inL] at h2
    have h3 := p_Has (l.map tuR) (by omega) tx valid
    rw [chk0_ok vt (by omega), tu_inL] at h3
    refine bB (v := true) (bB h1 (bT (by simp) (bB h2 (bT (by simp) (bB h3 (congrArg some ?_)))))) rfl
    simp
  · refine bB (v := true) (bB (p_few l) ?_) (bT rfl rfl)
    by_cases la : l.length ≤ 30
    · rw [dT la]
      refine bF rfl (bB (p_ref35_List l (by omega)) ?_)
      cases va : lvB l with
      | false => rfl
      | true => exact absurd ⟨la, va⟩ h
    · rw [dF la]; exact bT rfl rfl
end Go.Proofs.Ytkdffpncpikdmaa
