/-
  Rectangles: the form of a canonical list.
-/
import Derived.Test.YtkdffpncpikdmaaT13
namespace Go.Proofs.Ytkdffpncpikdmaa
open Go.RowKit

theorem nxt_at : ∀ {u : List Seg} {r s : Seg} {g : List Seg}, ChG (u ++ r :: s :: g) → Nxt r s := by
  intro u
  induction u with
  | nil => intro r s g h; exact h.1
  | cons a u ih =>
    intro r s g h
    cases u with
    | nil => exact ih h.2
    | cons b u => exact ih h.2
theorem canG_right : ∀ {u g : List Seg}, CanG (u ++ g) → CanG g := by
  intro u
  induction u with
  | nil => intro g h; exact h
  | cons a u ih => intro g h; exact ih h.tail
theorem getD_right (A B : List Rc) (j : Nat) : (A ++ B).getD (A.length + j) (0, 0, 0, 0) = B.getD j (0, 0, 0, 0) := by
  rw [List.getD_eq_getElem?_getD, List.getD_eq_getElem?_getD, List.getElem?_append_right (by omega), Nat.add_sub_cancel_left]
theorem rcs_getD (s : Seg) (B : List Rc) {j : Nat} (hj : j < s.2.2.length) : (rcs s ++ B).getD j (0, 0, 0, 0) = (s.2.2[j].1, s.2.2[j].2, s.1, s.2.1) := by
  rw [List.getD_eq_getElem?_getD, List.getElem?_append_left (by rw [rcs_len]; exact hj)]
  unfold rcs
  rw [List.getElem?_map, List.getElem?_eq_getElem hj]; rfl
theorem p_Form_L1 {A : List Rc} {s : Seg} {g : List Seg} (hg : CanG (s :: g)) (hlen : (A ++ (rcs s ++ flatG g)).length ≤ 100000) :
    loop (m_law35_RectangleForm_L1 std ((A.length : Nat) : Int) (A ++ (rcs s ++ flatG g))) (((A.length : Nat) : Int), ([] : List Sp)) = some (((A.length + s.2.2.length : Nat) : Int), s.2.2) := by
  have hs := hg.ok s (by simp)
  have hm : 0 < s.2.2.length := by
    rcases Nat.eq_zero_or_pos s.2.2.length with h | h
    · exact absurd (List.eq_nil_of_length_eq_zero h) hs.ne
    · exact h
  have hl : (A ++ (rcs s ++ flatG g)).length = A.length + (s.2.2.length + (flatG g).length) := by rw [List.length_append, List.length_append, rcs_len]
  have g0 : (A ++ (rcs s ++ flatG g)).getD A.length (0, 0, 0, 0) = (s.2.2[0].1, s.2.2[0].2, s.1, s.2.1) := by
    have := getD_right A (rcs s ++ flatG g) 0
    rw [Nat.add_zero] at this
    rw [this]; exact rcs_getD s _ hm
  have h := loop_to' (B := m_law35_RectangleForm_L1 std ((A.length : Nat) : Int) (A ++ (rcs s ++ flatG g))) (n := s.2.2.length) (fun j => (((A.length + j : Nat) : Int), s.2.2.take j)) (e := (((A.length + s.2.2.length : Nat) : Int), s.2.2)) (by omega) (fun j hj => by
    have gj : (A ++ (rcs s ++ flatG g)).getD (A.length + j) (0, 0, 0, 0) = (s.2.2[j].1, s.2.2[j].2, s.1, s.2.1) := by
      rw [getD_right]; exact rcs_getD s _ hj
    rw [m_law35_RectangleForm_L1_eq]
    simp only [Int.toNat_natCast, g0, gj]
    refine bB (v := true) (bT (dT (by omega)) (gX (by omega) (gK (by omega) (congrArg some (by simp))))) (bT rfl (gX (by omega) (gK (by omega) (gR (by simp; omega) (gR (by simp) (gI (by omega) ?_))))))
    rw [List.take_succ_eq_append_getElem hj]
    show some (Sum.inl (_, _)) = some (Sum.inl (_, _))
    congr 2) (by
    rw [m_law35_RectangleForm_L1_eq]
    simp only [Int.toNat_natCast, g0]
    by_cases hend : A.length + s.2.2.length < (A ++ (rcs s ++ flatG g)).length
    · have gj : ∃ q : Rc, (A ++ (rcs s ++ flatG g)).getD (A.length + s.2.2.length) (0, 0, 0, 0) = q ∧ q.2.2.1 ≠ s.1 := by
        rw [getD_right]
        cases g with
        | nil => rw [hl] at hend; simp [flatG] at hend
        | cons r g =>
          have hr := hg.ok r (by simp)
          have ha := hg.after r (by simp)
          have hrm : 0 < r.2.2.length := by
            rcases Nat.eq_zero_or_pos r.2.2.length with h | h
            · exact absurd (List.eq_nil_of_length_eq_zero h) hr.ne
            · exact h
          refine ⟨(r.2.2[0].1, r.2.2[0].2, r.1, r.2.1), ?_, ?_⟩
          · rw [flatG_cons, List.getD_eq_getElem?_getD, List.getElem?_append_right (by rw [rcs_len]; exact Nat.le_refl _), rcs_len, Nat.sub_self, ← List.getD_eq_getElem?_getD]
            exact rcs_getD r _ hrm
          · have := hs.lt
            show r.1 ≠ s.1
            omega
      obtain ⟨q, hq, hne⟩ := gj
      rw [hq]
      exact bB (v := false) (bT (dT (by omega)) (gX (by omega) (gK (by omega) (congrArg some (by simp [hne]))))) (bF rfl (by rw [List.take_length]))
    · exact bB (v := false) (bF (dF (by omega)) rfl) (bF rfl (by rw [List.take_length])))
  exact h
theorem p_Form_L2 {g : List Seg} (hg : CanG g) (hv : lvB (flatG g) = true) (hlen : (flatG g).length ≤ 500) : loop (m_law35_RectangleForm_L2 std (flatG g)) (0, ([] : List Sp), 0, 0) = some (.inr ()) := by
  have hlp := loop_is (B := m_law35_RectangleForm_L2 std (flatG g)) (y := (0, ([] : List Sp), 0, 0)) (fun y => ∃ g1 g2 : List Seg, g = g1 ++ g2 ∧ y.1 = (((flatG g1).length : Nat) : Int) ∧ ((g1 = [] ∧ y.2.1 = []) ∨ ∃ u r, g1 = u ++ [r] ∧ y.2.1 = r.2.2 ∧ y.2.2.2 = r.2.1))
    (fun y => (flatG g).length - y.1.toNat) (fun e => e = .inr ()) ⟨[], g, rfl, rfl, .inl ⟨rfl, rfl⟩⟩ (by show _ - _ < _; omega) (by
    rintro ⟨z, last, bf, bt⟩ ⟨g1, g2, rfl, h1, h2⟩
    change z = (((flatG g1).length : Nat) : Int) at h1
    subst h1
    rw [m_law35_RectangleForm_L2_eq]
    cases g2 with
    | nil =>
      refine ⟨.inr (.inr ()), bF (dF ?_) rfl, rfl⟩
      rw [List.append_nil]; omega
    | cons s g2 =>
      have hgs := canG_right hg
      have hs := hgs.ok s (by simp)
      have hm : 0 < s.2.2.length := by
        rcases Nat.eq_zero_or_pos s.2.2.length with h | h
        · exact absurd (List.eq_nil_of_length_eq_zero h) hs.ne
        · exact h
      have hF : flatG (g1 ++ s :: g2) = flatG g1 ++ (rcs s ++ flatG g2) := by rw [flatG_app, flatG_cons]
      have hl : (flatG (g1 ++ s :: g2)).length = (flatG g1).length + (s.2.2.length + (flatG g2).length) := by rw [hF, List.length_append, List.length_append, rcs_len]
      have hmem : ∀ v ∈ s.2.2, (v.1, v.2, s.1, s.2.1) ∈ flatG (g1 ++ s :: g2) := fun v hv => by
        rw [hF]
        exact List.mem_append_right _ (List.mem_append_left _ (List.mem_map.2 ⟨v, hv, rfl⟩))
      have hv' := lvB_iff.1 hv
      have hline : Line s.2.2 := fun v hv2 => by
        have := (hv' _ (hmem v hv2)).1
        simp only at this
        omega
      have hspan : tsB s.1 s.2.1 = true := by
        have := (hv' _ (hmem s.2.2[0] (List.getElem_mem hm))).2
        unfold tsB
        rw [decide_eq_true_eq]
        exact this
      have hval : m_runs_Valid std s.2.2 = some true := by
        rw [p_runs_Valid', dT (by omega), canB_iff.2 ⟨hs.can, hline⟩]; rfl
      have hl1 := p_Form_L1 (A := flatG g1) hgs (by rw [← hF]; omega)
      rw [← hF] at hl1
      have hg0 : (flatG (g1 ++ s :: g2)).getD (flatG g1).length (0, 0, 0, 0) = (s.2.2[0].1, s.2.2[0].2, s.1, s.2.1) := by
        rw [hF]
        have := getD_right (flatG g1) (rcs s ++ flatG g2) 0
        rw [Nat.add_zero] at this
        rw [this]; exact rcs_getD s _ hm
      refine ⟨.inl (((flatG (g1 ++ [s])).length : Nat), s.2.2, s.1, s.2.1), ?_, ⟨g1 ++ [s], g2, by simp, rfl, .inr ⟨g1, s, rfl, rfl, rfl⟩⟩, ?_⟩
      · refine bT (dT (by omega)) (gX (by omega) (gK (by omega) (bB hl1 ?_)))
        simp only [Int.toNat_natCast, hg0]
        have he : (((flatG (g1 ++ [s])).length : Nat) : Int) = ((flatG g1).length + s.2.2.length : Nat) := by
          rw [flatG_app, flatG_one, List.length_append, rcs_len]
        rw [he]
        refine bB (v := false) (bB hval (bF rfl (bB (p_ref35_Span s.1 s.2.1) (bF (by rw [hspan]; rfl) ?_)))) (bF rfl rfl)
        rcases h2 with ⟨_, h3⟩ | ⟨u, r, rfl, h3, h4⟩
        · change last = [] at h3
          rw [h3]; exact bF (dF (by simp)) rfl
        · change last = r.2.2 at h3
          change bt = r.2.1 at h4
          have hch := hg.ch
          rw [List.append_assoc] at hch
          have hn := nxt_at (u := u) (r := r) (s := s) (g := g2) hch
          have hr := hg.ok r (by simp)
          have hrm : 0 < r.2.2.length := by
            rcases Nat.eq_zero_or_pos r.2.2.length with h | h
            · exact absurd (List.eq_nil_of_length_eq_zero h) hr.ne
            · exact h
          rw [h3, h4]
          refine bT (dT (by omega)) ?_
          rcases hn with hn | ⟨hn, hne⟩
          · exact bF (dF (by omega)) (bF (eF (by omega)) rfl)
          · exact bF (dF (by omega)) (bT (eT hn.symm) (bB (p_slices_Equal _ _ (by omega)) (congrArg some (dF fun e => hne e.symm))))
      · show (flatG (g1 ++ s :: g2)).length - Int.toNat (((flatG (g1 ++ [s])).length : Nat) : Int) < (flatG (g1 ++ s :: g2)).length - Int.toNat (((flatG g1).length : Nat) : Int)
        have he : (flatG (g1 ++ [s])).length = (flatG g1).length + s.2.2.length := by
          rw [flatG_app, flatG_one, List.length_append, rcs_len]
        rw [he]
        omega)
  obtain ⟨e, h1, rfl⟩ := hlp
  exact h1
theorem pl_RectangleForm (l : List Rc) : m_law35_RectangleForm std l = some true := by
  rw [m_law35_RectangleForm_eq]
  refine bB p_awake (bF rfl (bB (p_few l) ?_))
  by_cases h : l.length ≤ 30
  · rw [dT h]
    obtain ⟨c, e, w, n, A0, A1, A2, A3⟩ := res_ex rOr l []
    refine bF rfl (bB ((p_Canonical l (by omega)).trans (congrArg some w)) ?_)
    by_cases he : e = 0
    · refine bF (nF (eT he)) ?_
      obtain ⟨q1, q2, q3⟩ := A0 he
      have va : lvB l = true := (chk2_zero.1 q1).1
      obtain ⟨g1, g2⟩ := can_pairs va (by omega)
      have gd := op_good .or (GdL.self va (show l.length ≤ 500 by omega)) (GdL.self (l := []) rfl (by simp)) w he
      have hin : ∀ x t, inL c x t = inL l x t := fun x t => by
        rw [gd.q]
        show (inL l x t || inL [] x t) = inL l x t
        have : inL [] x t = false := rfl
        rw [this, Bool.or_false]
      have hres := can_same gd.v va gd.n (by omega) hin
      have hlp := p_Form_L2 g1 (by rw [← q3]; exact gd.v) q2
      rw [← q3] at hlp
      refine bB ((p_Canonical c (by omega)).trans (congrArg some (hres.trans w))) (bB (v := false) (bF (nF (eT he)) (bB (p_slices_Equal_2 c c (by omega)) (congrArg some (nF (dT rfl))))) (bF rfl (bB hlp rfl)))
    · refine bT (nT (eF he)) ?_
      have hc := A2 he
      rw [hc]
      refine bB (v := true) (bT (eT rfl) (bB (p_ref35_List l (by omega)) ?_)) rfl
      cases va : lvB l with
      | false => rfl
      | true =>
        refine bF rfl (congrArg some (dT ?_))
        rcases Nat.lt_or_ge 10 l.length with h10 | h10
        · omega
        · exfalso
          refine he (A3 (chk2_zero.2 ⟨va, rfl, by omega, by simp⟩) ?_)
          have h1 := segC_len IsRule.or va (b := []) rfl (by omega) (by simp)
          simp only [List.length_nil, Nat.add_zero] at h1
          have h2 : (2 * l.length - 1) * l.length ≤ 19 * 10 := Nat.mul_le_mul (by omega) (by omega)
          omega
  · rw [dF h]; exact bT rfl rfl
end Go.Proofs.Ytkdffpncpikdmaa
