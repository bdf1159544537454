/-
  Rectangles: the example; canonical lists and operations, as the reference has them.
-/
import Derived.Test.YtkdffpncpikdmaaTA
namespace Go.Proofs.Ytkdffpncpikdmaa
open Go.RowKit

theorem segC_eq {rule : Bool → Bool → Bool} (hr : IsRule rule) {a b : List Rc} (ha : lvB a = true) (hb : lvB b = true) (hla : a.length ≤ 500) (hlb : b.length ≤ 500) {g : List Seg} (hg : CanG g) (h : ∀ x t, memB (setAt g t) x = rule (inL a x t) (inL b x t)) : segC rule a b = g :=
  uniqL (segC_ok hr ha hb hla hlb).1 hg fun x t => by rw [(segC_ok hr ha hb hla hlb).2, h]
theorem p_awake : m_law35_awake std = some true := by
  have hL : lvB [(5, 15, 5, 10), (0, 10, 0, 10)] = true := by decide
  have hg : CanG [(0, 5, [(0, 10)]), (5, 10, [(0, 15)])] := by
    refine ⟨fun s hs => ?_, .inr ⟨rfl, by decide⟩, trivial⟩
    rcases List.mem_cons.1 hs with rfl | hs
    · exact ⟨by decide, by simp, Can.one (by decide)⟩
    · rcases List.mem_cons.1 hs with rfl | hs
      · exact ⟨by decide, by simp, Can.one (by decide)⟩
      · cases hs
  have he := segC_eq IsRule.or (a := [(5, 15, 5, 10), (0, 10, 0, 10)]) (b := []) hL rfl (by decide) (by decide) hg (fun x t => by
    rw [Bool.eq_iff_iff, memB_iff]
    unfold rOr inL inR
    simp only [List.any_cons, List.any_nil, Bool.or_false, Bool.or_eq_true, Bool.and_eq_true, decide_eq_true_eq, setAt]
    split
    · rw [mem_one]; omega
    · split
      · rw [mem_one]; omega
      · constructor
        · intro h; exact absurd h (mem_nil x)
        · omega)
  have hc : m_rectangle_Canonical std [(5, 15, 5, 10), (0, 10, 0, 10)] = some ([(0, 10, 0, 5), (0, 15, 5, 10)], 0) := by
    rw [p_Canonical _ (by decide)]
    unfold resC
    rw [if_pos (by decide), he]
    rfl
  rw [m_law35_awake_eq]
  exact bB (v := (5, 15, 5, 10)) rfl (bB (v := (0, 10, 0, 10)) rfl (bB hc (bB (v := true) (bT rfl (bB (v := (0, 10, 0, 5)) rfl (bB (v := (0, 15, 5, 10)) rfl (bB (p_slices_Equal_2 _ _ (by decide)) rfl)))) rfl)))
theorem p_few (l : List Rc) : m_law35_few std l = some (decide (l.length ≤ 30)) := by
  rw [m_law35_few_eq, m_slices_ContainsFunc_3_eq, m_slices_IndexFunc_3_eq, m_law35_few_1_eq]
  by_cases h : l.length ≤ 30
  · rw [dT h]
    exact bB (v := false) (bB (v := -1) (bB (v := false) (congrArg some (dF (by omega))) (bF rfl (gI (by omega) rfl))) rfl) rfl
  · rw [dF h]
    exact bB (v := true) (bB (v := 0) (bB (v := true) (congrArg some (dT (by omega))) (bT rfl rfl)) rfl) rfl
theorem p_few_2 (a b : List Rc) : m_law35_few_2 std a b = some (decide (a.length ≤ 30 ∧ b.length ≤ 30)) := by
  rw [m_law35_few_2_eq, m_slices_ContainsFunc_5_eq, m_slices_IndexFunc_5_eq, m_law35_few_1_eq, m_law35_few_1_eq]
  by_cases h : a.length ≤ 30
  · by_cases h2 : b.length ≤ 30
    · rw [dT (⟨h, h2⟩ : a.length ≤ 30 ∧ b.length ≤ 30)]
      exact bB (v := false) (bB (v := -1) (bB (v := false) (congrArg some (dF (by omega))) (bF rfl (gI (by omega) (bB (v := false) (congrArg some (dF (by omega))) (bF rfl (gI (by omega) rfl)))))) rfl) rfl
    · rw [dF (show ¬ (a.length ≤ 30 ∧ b.length ≤ 30) from fun hh => h2 hh.2)]
      exact bB (v := true) (bB (v := 1) (bB (v := false) (congrArg some (dF (by omega))) (bF rfl (gI (by omega) (bB (v := true) (congrArg some (dT (by omega))) (bT rfl rfl))))) rfl) rfl
  · rw [dF (show ¬ (a.length ≤ 30 ∧ b.length ≤ 30) from fun hh => h hh.1)]
    exact bB (v := true) (bB (v := 0) (bB (v := true) (congrArg some (dT (by omega))) (bT rfl rfl)) rfl) rfl
theorem p_valids (l : List Rc) (hl : l.length ≤ 1000000) : m_slices_ContainsFunc_4 std l = some false := by
  have h := p_index (d := ((0, 0, 0, 0) : Rc)) (l := l) (p := fun _ => true) (B := m_slices_IndexFunc_4_L1 std l) (by omega) (fun i hi => by
    rw [m_slices_IndexFunc_4_L1_eq, m_law35_RectangleCanonical_1_eq]
    simp only [Int.toNat_natCast]
    rw [p_rectangle_Valid, p_ref35_Valid]
    refine bT (dT (by omega)) (gX (by omega) (gK hi (bB (v := false) (bB rfl (bB rfl ?_)) (bF rfl (gI (by omega) rfl)))))
    simp) (by rw [m_slices_IndexFunc_4_L1_eq]; exact bF (dF (by omega)) rfl)
  rw [m_slices_ContainsFunc_4_eq, m_slices_IndexFunc_4_eq]
  refine h.trans ?_
  simp
theorem resC_len (rule : Bool → Bool → Bool) (a b : List Rc) : (resC rule a b).1.length ≤ 500 := by
  unfold resC
  split
  · split
    · assumption
    · simp
  · simp
theorem resC_ok {rule : Bool → Bool → Bool} {a b : List Rc} (h : (resC rule a b).2 = 0) : chk2 a b = 0 ∧ (flatG (segC rule a b)).length ≤ 500 ∧ (resC rule a b).1 = flatG (segC rule a b) := by
  unfold resC at h ⊢
  by_cases h0 : chk2 a b = 0
  · rw [if_pos h0] at h ⊢
    by_cases h1 : (flatG (segC rule a b)).length ≤ 500
    · rw [if_pos h1]; exact ⟨h0, h1, rfl⟩
    · rw [if_neg h1] at h; cases h
  · rw [if_neg h0] at h; exact absurd h h0
theorem resC_err (rule : Bool → Bool → Bool) (a b : List Rc) : (resC rule a b).2 = 0 ∨ (resC rule a b).2 = 5 ∨ ((resC rule a b).2 = 1 ∧ chk2 a b ≠ 0) := by
  unfold resC
  by_cases h0 : chk2 a b = 0
  · rw [if_pos h0]
    split
    · exact .inl rfl
    · exact .inr (.inl rfl)
  · rw [if_neg h0]
    unfold chk2 at h0 ⊢
    split at h0
    · split at h0
      · exact absurd rfl h0
      · rename_i h1 h2; rw [if_pos h1, if_neg h2]; exact .inr (.inl rfl)
    · rename_i h1; rw [if_neg h1]; exact .inr (.inr ⟨rfl, by decide⟩)
/-- the result, as two -/
theorem res_ex (rule : Bool → Bool → Bool) (a b : List Rc) : ∃ c e, resC rule a b = (c, e) ∧ c.length ≤ 500 ∧ (e = 0 → chk2 a b = 0 ∧ (flatG (segC rule a b)).length ≤ 500 ∧ c = flatG (segC rule a b)) ∧ (e = 0 ∨ e = 5 ∨ (e = 1 ∧ chk2 a b ≠ 0)) ∧ (e ≠ 0 → c = []) ∧ (chk2 a b = 0 → (flatG (segC rule a b)).length ≤ 500 → e = 0) :=
  ⟨(resC rule a b).1, (resC rule a b).2, rfl, resC_len rule a b, resC_ok, resC_err rule a b, fun h => by
    unfold resC at h ⊢
    by_cases h0 : chk2 a b = 0
    · rw [if_pos h0] at h ⊢
      by_cases h1 : (flatG (segC rule a b)).length ≤ 500
      · rw [if_pos h1] at h; exact absurd rfl h
      · rw [if_neg h1]
    · rw [if_neg h0], fun h0 h1 => by unfold resC; rw [if_pos h0, if_pos h1]⟩
theorem pl_RectangleCanonical (l : List Rc) : m_law35_RectangleCanonical std l = some true := by
  rw [m_law35_RectangleCanonical_eq]
  refine bB p_awake (bF rfl (bB (p_few l) ?_))
  by_cases h : l.length ≤ 30
  · rw [dT h]
    obtain ⟨c, e, he, h1, _⟩ := res_ex rOr l []
    exact bF rfl (bB ((p_Canonical l (by omega)).trans (congrArg some he)) (bB ((p_rCombine_0 l [] (by omega) (by simp)).trans (congrArg some he)) (bB (v := true) (bB (p_slices_Equal_2 _ _ (by omega)) (bT (dT rfl) (bT (eT rfl) (bB (p_valids l (by omega)) rfl)))) rfl)))
  · rw [dF h]; exact bT rfl rfl
/-! equality -/
theorem sub_empty {a b : List Rc} (ha : lvB a = true) (hb : lvB b = true) (hla : a.length ≤ 500) (hlb : b.length ≤ 500) : flatG (segC rSub a b) = [] ↔ ∀ x t, inL a x t = true → inL b x t = true := by
  obtain ⟨g1, g2⟩ := segC_ok IsRule.sub ha hb hla hlb
  constructor
  · intro h x t hx
    have h0 := flatG_empty g1 h
    have := g2 x t
    rw [h0, hx] at this
    cases hb2 : inL b x t with
    | true => rfl
    | false => rw [hb2] at this; cases this
  · intro h
    have : segC rSub a b = [] := segC_eq IsRule.sub ha hb hla hlb CanG.nil fun x t => by
      show false = (inL a x t && !inL b x t)
      cases h1 : inL a x t with
      | false => rfl
      | true => rw [h x t h1]; rfl
    rw [this]; rfl
/-- the same pairs -/
noncomputable def eqP (a b : List Rc) : Bool := @decide (∀ x t, inL a x t = inL b x t) (Classical.propDecidable _)
theorem eqP_iff {a b : List Rc} : eqP a b = true ↔ ∀ x t, inL a x t = inL b x t := by unfold eqP; exact @decide_eq_true_iff _ (Classical.propDecidable _)
theorem p_Equal (a b : List Rc) (hla : a.length ≤ 50000) (hlb : b.length ≤ 50000) : m_rectangle_Equal std a b = some (if chk2 a b = 0 then eqP a b else false) := by
  rw [m_rectangle_Equal_eq]
  refine bB (p_check a b (by omega) (by omega)) ?_
  by_cases h0 : chk2 a b = 0
  · obtain ⟨h1, h2, h3, h4⟩ := chk2_zero.1 h0
    have h0' : chk2 b a = 0 := chk2_zero.2 ⟨h2, h1, h4, h3⟩
    rw [if_pos h0]
    obtain ⟨c1, q1, hq1, _, _⟩ := res_ex rSub a b
    obtain ⟨c2, q2, hq2, _, _⟩ := res_ex rSub b a
    refine bF (nF (eT h0)) (bB ((p_rectangle_combine_3 a b (by omega) (by omega)).trans (congrArg some hq1)) (bB ((p_rectangle_combine_3 b a (by omega) (by omega)).trans (congrArg some hq2)) (bB (v := eqP a b) ?_ rfl)))
    have e1 := sub_empty h1 h2 h3 h4
    have e2 := sub_empty h2 h1 h4 h3
    unfold resC at hq1 hq2
    rw [if_pos h0] at hq1
    rw [if_pos h0'] at hq2
    by_cases hq : eqP a b = true
    · have hq' := eqP_iff.1 hq
      have z1 := e1.2 (fun x t hx => by rw [← hq']; exact hx)
      have z2 := e2.2 (fun x t hx => by rw [hq']; exact hx)
      rw [z1, if_pos (by simp)] at hq1
      rw [z2, if_pos (by simp)] at hq2
      cases hq1; cases hq2
      rw [hq]; rfl
    · have hqf : eqP a b = false := by simpa using hq
      rw [hqf]
      have hne : ¬ (flatG (segC rSub a b) = [] ∧ flatG (segC rSub b a) = []) := by
        rintro ⟨z1, z2⟩
        refine hq (eqP_iff.2 fun x t => ?_)
        have k1 := e1.1 z1 x t
        have k2 := e2.1 z2 x t
        cases ca : inL a x t <;> cases cb : inL b x t
        · rfl
        · have := k2 cb; rw [ca] at this; cases this
        · have := k1 ca; rw [cb] at this; cases this
        · rfl
      by_cases l1 : (flatG (segC rSub a b)).length ≤ 500
      · by_cases l2 : (flatG (segC rSub b a)).length ≤ 500
        · rw [if_pos l1] at hq1
          rw [if_pos l2] at hq2
          cases hq1; cases hq2
          refine bT rfl (bT rfl ?_)
          by_cases z1 : (flatG (segC rSub a b)).length = 0
          · refine bT (eT (by show ((_ : Nat) : Int) = 0; omega)) (congrArg some (eF fun z2 => hne ⟨List.eq_nil_of_length_eq_zero z1, List.eq_nil_of_length_eq_zero ?_⟩))
            change (((flatG (segC rSub b a)).length : Nat) : Int) = 0 at z2
            omega
          · exact bF (eF (by show ((_ : Nat) : Int) ≠ 0; omega)) rfl
        · rw [if_pos l1] at hq1
          rw [if_neg l2] at hq2
          cases hq1; cases hq2; rfl
      · rw [if_neg l1] at hq1
        cases hq1; rfl
  · rw [if_neg h0]
    exact bT (nT (eF h0)) rfl
theorem flatG_inj {g g' : List Seg} (h : CanG g) (h' : CanG g') (he : flatG g = flatG g') : g = g' :=
  uniqL h h' fun x t => by rw [← inL_flat h, ← inL_flat h', he]
/-- the canonical list of one list has its pairs -/
theorem can_pairs {l : List Rc} (h : lvB l = true) (hl : l.length ≤ 500) : CanG (segC rOr l []) ∧ ∀ x t, memB (setAt (segC rOr l []) t) x = inL l x t := by
  obtain ⟨h1, h2⟩ := segC_ok IsRule.or (a := l) (b := []) h rfl hl (by simp)
  refine ⟨h1, fun x t => ?_⟩
  rw [h2]
  show (inL l x t || inL [] x t) = inL l x t
  have : inL [] x t = false := rfl
  rw [this, Bool.or_false]
theorem eqP_can {a b : List Rc} (ha : lvB a = true) (hb : lvB b = true) (hla : a.length ≤ 500) (hlb : b.length ≤ 500) : eqP a b = decide (flatG (segC rOr a []) = flatG (segC rOr b [])) := by
  obtain ⟨a1, a2⟩ := can_pairs ha hla
  obtain ⟨b1, b2⟩ := can_pairs hb hlb
  rw [Bool.eq_iff_iff, eqP_iff, decide_eq_true_iff]
  constructor
  · intro h
    rw [uniqL a1 b1 fun x t => by rw [a2, b2, h]]
  · intro h x t
    rw [← a2, ← b2, flatG_inj a1 b1 h]
theorem chk1 {l : List Rc} (h : l.length ≤ 500) : chk2 l [] = if lvB l = true then 0 else 1 := by
  unfold chk2
  have : lvB [] = true := rfl
  rw [this, Bool.and_true]
  split
  · rw [if_pos ⟨h, by simp⟩]
  · rfl
theorem pl_RectangleOperations (a b : List Rc) : m_law35_RectangleOperations std a b = some true := by
  rw [m_law35_RectangleOperations_eq]
  refine bB p_awake (bF rfl (bB (p_few_2 a b) ?_))
  by_cases h : a.length ≤ 30 ∧ b.length ≤ 30
  · obtain ⟨ha, hb⟩ := h
    rw [dT (⟨ha, hb⟩ : a.length ≤ 30 ∧ b.length ≤ 30)]
    obtain ⟨c1, f1, w1, h1, _⟩ := res_ex rOr a b
    obtain ⟨c2, f2, w2, h2, _⟩ := res_ex rAnd a b
    obtain ⟨c3, f3, w3, h3, _⟩ := res_ex rSub a b
    obtain ⟨ca, n1, wa, h4, A0, A1, _⟩ := res_ex rOr a []
    obtain ⟨cb, n2, wb, h5, B0, B1, _⟩ := res_ex rOr b []
    have W : ∀ {x : Option (List Rc × Int)} {rule : Bool → Bool → Bool} {p q : List Rc} {c : List Rc} {e : Int}, x = some (resC rule p q) → resC rule p q = (c, e) → x = some (c, e) := fun h h' => h.trans (congrArg some h')
    refine bF rfl (bB (W (p_Union a b (by omega) (by omega)) w1) (bB (W (p_rCombine_0 a b (by omega) (by omega)) w1) (bB (v := false) (bB (p_slices_Equal_2 _ _ (by omega)) (bF (nF (dT rfl)) (congrArg some (nF (eT rfl))))) (bF rfl (gI (by omega) ?_)))))
    refine bB (W (p_Meet a b (by omega) (by omega)) w2) (bB (W (p_rCombine_1 a b (by omega) (by omega)) w2) (bB (v := false) (bB (p_slices_Equal_2 _ _ (by omega)) (bF (nF (dT rfl)) (congrArg some (nF (eT rfl))))) (bF rfl (gI (by omega) ?_))))
    refine bB (W (p_Minus a b (by omega) (by omega)) w3) (bB (W (p_rCombine_2 a b (by omega) (by omega)) w3) (bB (v := false) (bB (p_slices_Equal_2 _ _ (by omega)) (bF (nF (dT rfl)) (congrArg some (nF (eT rfl))))) (bF rfl (gI (by omega) ?_))))
    refine bB (W (p_rCombine_0 a [] (by omega) (by simp)) wa) (bB (W (p_rCombine_0 b [] (by omega) (by simp)) wb) (bB (v := true) ?_ rfl))
    have ea := chk1 (l := a) (by omega)
    have eb := chk1 (l := b) (by omega)
    have hE := p_Equal a b (by omega) (by omega)
    by_cases n15 : n1 = 5
    · exact bT (eT n15) rfl
    · refine bF (eF n15) ?_
      by_cases n25 : n2 = 5
      · exact bT (eT n25) rfl
      · refine bF (eF n25) (bB hE ?_)
        by_cases m1 : n1 = 0
        · refine bT (eT m1) ?_
          obtain ⟨q1, q2, q3⟩ := A0 m1
          have va : lvB a = true := (chk2_zero.1 q1).1
          by_cases m2 : n2 = 0
          · refine bT (eT m2) ?_
            obtain ⟨r1, r2, r3⟩ := B0 m2
            have vb : lvB b = true := (chk2_zero.1 r1).1
            refine bB (p_slices_Equal_2 _ _ (by omega)) ?_
            rw [q3, r3, if_pos (chk2_zero.2 ⟨va, vb, by omega, by omega⟩), eqP_can va vb (by omega) (by omega)]
            simp
          · refine bF (eF m2) ?_
            have : ¬ chk2 a b = 0 := fun hh => by
              obtain ⟨_, vb, _, _⟩ := chk2_zero.1 hh
              rcases B1 with k | k | ⟨_, k⟩
              · exact m2 k
              · exact n25 k
              · rw [eb, if_pos vb] at k; exact k rfl
            rw [if_neg this]; rfl
        · refine bF (eF m1) ?_
          have : ¬ chk2 a b = 0 := fun hh => by
            obtain ⟨va, _, _, _⟩ := chk2_zero.1 hh
            rcases A1 with k | k | ⟨_, k⟩
            · exact m1 k
            · exact n15 k
            · rw [ea, if_pos va] at k; exact k rfl
          rw [if_neg this]; rfl
  · rw [dF h]; exact bT rfl rfl
end Go.Proofs.Ytkdffpncpikdmaa
