/-
  Rectangles: membership; the operations pointwise; laws of sets.
-/
import Derived.Test.YtkdffpncpikdmaaT9
namespace Go.Proofs.Ytkdffpncpikdmaa
open Go.RowKit

theorem inR_model (r : Rc) (v t : Int) : (Option.bind (bif (decide (r.1 ≤ v)) then bif (decide (v < r.2.1)) then bif (decide (r.2.2.1 ≤ t)) then (some (decide (t < r.2.2.2))) else (some false) else (some false) else (some false) : Option Bool) fun x => (some x)) = some (inR r v t) := by
  unfold inR
  cases decide (r.1 ≤ v) <;> cases decide (v < r.2.1) <;> cases decide (r.2.2.1 ≤ t) <;> rfl
theorem any_not_all (l : List Rc) (p : Rc → Bool) : (!l.all fun r => !p r) = l.any p := by
  rw [List.any_eq_not_all_not]
theorem p_6 (l : List Rc) (hl : l.length ≤ 1000000) (v t : Int) : m_slices_ContainsFunc_6 std l v t = some (inL l v t) := by
  have h := p_index (d := ((0, 0, 0, 0) : Rc)) (l := l) (p := fun r => !inR r v t) (B := m_slices_IndexFunc_6_L1 std v t l) (by omega) (fun i hi => by
    rw [m_slices_IndexFunc_6_L1_eq, m_law35_in_1_eq]
    simp only [Int.toNat_natCast]
    obtain ⟨r, hr⟩ : ∃ r, List.getD l i (0, 0, 0, 0) = r := ⟨_, rfl⟩
    simp only [hr]
    refine bT (dT (by omega)) (gX (by omega) (gK hi (bB (inR_model r v t) ?_)))
    cases inR r v t with
    | true => rfl
    | false => exact gI (by omega) rfl) (by rw [m_slices_IndexFunc_6_L1_eq]; exact bF (dF (by omega)) rfl)
  rw [m_slices_ContainsFunc_6_eq, m_slices_IndexFunc_6_eq]
  refine h.trans ?_
  rw [any_not_all]; rfl
theorem p_7 (l : List Rc) (hl : l.length ≤ 1000000) (v t : Int) : m_slices_ContainsFunc_7 std l v t = some (inL l v t) := by
  have h := p_index (d := ((0, 0, 0, 0) : Rc)) (l := l) (p := fun r => !inR r v t) (B := m_slices_IndexFunc_7_L1 std v t l) (by omega) (fun i hi => by
    rw [m_slices_IndexFunc_7_L1_eq, m_rectangle_Has_1_eq]
    simp only [Int.toNat_natCast]
    obtain ⟨r, hr⟩ : ∃ r, List.getD l i (0, 0, 0, 0) = r := ⟨_, rfl⟩
    simp only [hr]
    refine bT (dT (by omega)) (gX (by omega) (gK hi (bB (inR_model r v t) ?_)))
    cases inR r v t with
    | true => rfl
    | false => exact gI (by omega) rfl) (by rw [m_slices_IndexFunc_7_L1_eq]; exact bF (dF (by omega)) rfl)
  rw [m_slices_ContainsFunc_7_eq, m_slices_IndexFunc_7_eq]
  refine h.trans ?_
  rw [any_not_all]; rfl
theorem p_in (l : List Rc) (hl : l.length ≤ 1000000) (v t : Int) : m_law35_in std v t l = some (inL l v t) := by
  rw [m_law35_in_eq, p_6 l hl]; rfl
def chk0 (l : List Rc) : Int := if lvB l = true then (if l.length ≤ 500 then 0 else 5) else 1
theorem p_check_2 (l : List Rc) (hl : l.length ≤ 1000000) : m_rectangle_check_2 std l = some (chk0 l) := by
  rw [m_rectangle_check_2_eq, p_rect_bad l (by omega)]
  unfold chk0
  cases h1 : lvB l with
  | false => exact bB rfl (bT rfl rfl)
  | true =>
    rw [if_pos rfl]
    refine bB rfl (bF rfl (gI (by omega) ?_))
    by_cases h3 : l.length ≤ 500
    · rw [if_pos h3]; exact bF (dF (by omega)) rfl
    · rw [if_neg h3]; exact bT (dT (by omega)) rfl
theorem p_Has (l : List Rc) (hl : l.length ≤ 1000000) (v t : Int) : m_rectangle_Has std v t l = some (chk0 l == 0 && inL l v t) := by
  rw [m_rectangle_Has_eq, p_check_2 l hl]
  refine bB (v := (chk0 l == 0 && inL l v t)) (bB rfl ?_) rfl
  cases h : chk0 l == 0 with
  | true => exact bT rfl (bB (p_7 l hl v t) rfl)
  | false => exact bF rfl rfl

/-! lists that are good, and what they contain -/
structure GdL (l : List Rc) (p : Int → Int → Bool) : Prop where
  v : lvB l = true
  n : l.length ≤ 500
  q : ∀ x t, inL l x t = p x t
theorem GdL.self {l : List Rc} (h : lvB l = true) (hn : l.length ≤ 500) : GdL l (inL l) := ⟨h, hn, fun _ _ => rfl⟩
theorem setAt_can : ∀ {g : List Seg}, CanG g → ∀ t, Can (setAt g t) := by
  intro g
  induction g with
  | nil => intro _ t; exact Can.nil
  | cons s g ih =>
    intro h t
    show Can (if s.1 ≤ t ∧ t < s.2.1 then s.2.2 else setAt g t)
    split
    · exact (h.ok s (by simp)).can
    · exact ih h.tail t
theorem flatG_mem {g : List Seg} {r : Rc} (h : r ∈ flatG g) : ∃ s ∈ g, ∃ v ∈ s.2.2, r = (v.1, v.2, s.1, s.2.1) := by
  unfold flatG at h
  obtain ⟨s, hs, h⟩ := List.mem_flatMap.1 h
  unfold rcs at h
  obtain ⟨v, hv, rfl⟩ := List.mem_map.1 h
  exact ⟨s, hs, v, hv, rfl⟩
theorem flatG_valid {g : List Seg} (h : CanG g) (hb : ∀ x t, inL (flatG g) x t = true → (-62135596800 ≤ x ∧ x < 253402300800) ∧ -62135596800 ≤ t ∧ t < 253402300800) : lvB (flatG g) = true := by
  rw [lvB_iff]
  intro r hr
  obtain ⟨s, hs, v, hv, rfl⟩ := flatG_mem hr
  have h1 := h.ok s hs
  have h2 := h1.can.ne v hv
  have h3 := h1.lt
  have p1 := hb v.1 s.1 (by
    unfold inL inR; rw [List.any_eq_true]; exact ⟨_, hr, by simp; omega⟩)
  have p2 := hb (v.2 - 1) (s.2.1 - 1) (by
    unfold inL inR; rw [List.any_eq_true]; exact ⟨_, hr, by simp; omega⟩)
  show (_ ≤ v.1 ∧ v.1 < v.2 ∧ v.2 ≤ _) ∧ _ ≤ s.1 ∧ s.1 < s.2.1 ∧ s.2.1 ≤ _
  omega
theorem rule_true {rule : Bool → Bool → Bool} (hr : IsRule rule) {p q : Bool} (h : rule p q = true) : p = true ∨ q = true := by
  cases p <;> cases q
  · rw [hr.ff] at h; cases h
  · exact .inr rfl
  · exact .inl rfl
  · exact .inl rfl
theorem seg_good {rule : Bool → Bool → Bool} (hr : IsRule rule) {a b : List Rc} {P Q : Int → Int → Bool} (ha : GdL a P) (hb : GdL b Q) (hn : (flatG (segC rule a b)).length ≤ 500) : GdL (flatG (segC rule a b)) (fun x t => rule (P x t) (Q x t)) := by
  obtain ⟨g1, g2⟩ := segC_ok hr ha.v hb.v ha.n hb.n
  have hq : ∀ x t, inL (flatG (segC rule a b)) x t = rule (P x t) (Q x t) := fun x t => by rw [inL_flat g1, g2, ha.q, hb.q]
  refine ⟨flatG_valid g1 fun x t h => ?_, hn, hq⟩
  rw [inL_flat g1, g2] at h
  rcases rule_true hr h with h | h
  · exact inL_bd ha.v h
  · exact inL_bd hb.v h
/-- what an operation gives, if it gives something -/
theorem op_good {rule : Bool → Bool → Bool} (hr : IsRule rule) {a b : List Rc} {P Q : Int → Int → Bool} (ha : GdL a P) (hb : GdL b Q) {c : List Rc} {e : Int} (h : resC rule a b = (c, e)) (he : e = 0) : GdL c (fun x t => rule (P x t) (Q x t)) := by
  have h2 : (resC rule a b).2 = 0 := by rw [h]; exact he
  obtain ⟨_, q2, q3⟩ := resC_ok h2
  rw [h] at q3
  change c = _ at q3
  rw [q3]
  exact seg_good hr ha hb q2
theorem equal_good {a b : List Rc} {P Q : Int → Int → Bool} (ha : GdL a P) (hb : GdL b Q) (h : ∀ x t, P x t = Q x t) : m_rectangle_Equal std a b = some true := by
  have := ha.n
  have := hb.n
  rw [p_Equal a b (by omega) (by omega), if_pos (chk2_zero.2 ⟨ha.v, hb.v, ha.n, hb.n⟩), eqP_iff.2 fun x t => by rw [ha.q, hb.q, h]]

/-! pointwise -/
def crV (l : List Rc) : List Int := l.flatMap fun r => [r.1 - 1, r.1, r.2.1 - 1, r.2.1]
def crT (l : List Rc) : List Int := l.flatMap fun r => [r.2.2.1 - 1, r.2.2.1, r.2.2.2 - 1, r.2.2.2]
theorem p_law35_critical_L1 {l : List Rc} (hv : lvB l = true) (hl : l.length ≤ 1000) {u v : List Int} (hu : u.length ≤ 100000) (hw : v.length ≤ 100000) : loop (m_law35_critical_L1 std l) (0, u, v) = some (u ++ crV l, v ++ crT l) := by
  have e : ∀ (q : List Rc), (crV q).length = 4 * q.length ∧ (crT q).length = 4 * q.length := fun q => by
    unfold crV crT
    induction q with
    | nil => simp
    | cons r q ih => simp only [List.flatMap_cons, List.length_append, ih.1, ih.2, List.length_cons, List.length_nil]; omega
  have h := loop_up (B := m_law35_critical_L1 std l) (n := l.length) (fun i => (u ++ crV (l.take i), v ++ crT (l.take i))) (e := (u ++ crV l, v ++ crT l)) (by omega) (fun i hi => by
    have hr := lvB_iff.1 hv l[i] (List.getElem_mem hi)
    have eg : l.getD i (0, 0, 0, 0) = l[i] := by rw [List.getD_eq_getElem?_getD, List.getElem?_eq_getElem hi]; rfl
    have l1 := (e (l.take i)).1
    have l2 := (e (l.take i)).2
    rw [List.length_take] at l1 l2
    rw [m_law35_critical_L1_eq]
    simp only [Int.toNat_natCast, eg]
    refine bT (dT (by omega)) (gX (by omega) (gK hi (gI (by omega) (gI (by omega) (gR (by simp; omega) (gR (by simp) (gI (by omega) (gI (by omega) (gR (by simp; omega) (gR (by simp) (gI (by omega) ?_)))))))))))
    rw [List.take_succ_eq_append_getElem hi]
    have a1 : ∀ (q : List Rc) (r : Rc), crV (q ++ [r]) = crV q ++ [r.1 - 1, r.1, r.2.1 - 1, r.2.1] := fun q r => by simp [crV]
    have a2 : ∀ (q : List Rc) (r : Rc), crT (q ++ [r]) = crT q ++ [r.2.2.1 - 1, r.2.2.1, r.2.2.2 - 1, r.2.2.2] := fun q r => by simp [crT]
    rw [a1, a2, List.append_assoc, List.append_assoc]; rfl) (by
    rw [m_law35_critical_L1_eq]
    refine bF (dF (by omega)) ?_
    show some (Sum.inr (_, _)) = _
    rw [List.take_length])
  have e0 : (u ++ crV (l.take 0), v ++ crT (l.take 0)) = (u, v) := by simp [crV, crT]
  rw [e0] at h
  exact h
theorem p_law35_critical_L2 {l : List Rc} (hv : lvB l = true) (hl : l.length ≤ 1000) {u v : List Int} (hu : u.length ≤ 100000) (hw : v.length ≤ 100000) : loop (m_law35_critical_L2 std l) (0, u, v) = some (u ++ crV l, v ++ crT l) := by
  have e : ∀ (q : List Rc), (crV q).length = 4 * q.length ∧ (crT q).length = 4 * q.length := fun q => by
    unfold crV crT
    induction q with
    | nil => simp
    | cons r q ih => simp only [List.flatMap_cons, List.length_append, ih.1, ih.2, List.length_cons, List.length_nil]; omega
  have h := loop_up (B := m_law35_critical_L2 std l) (n := l.length) (fun i => (u ++ crV (l.take i), v ++ crT (l.take i))) (e := (u ++ crV l, v ++ crT l)) (by omega) (fun i hi => by
    have hr := lvB_iff.1 hv l[i] (List.getElem_mem hi)
    have eg : l.getD i (0, 0, 0, 0) = l[i] := by rw [List.getD_eq_getElem?_getD, List.getElem?_eq_getElem hi]; rfl
    have l1 := (e (l.take i)).1
    have l2 := (e (l.take i)).2
    rw [List.length_take] at l1 l2
    rw [m_law35_critical_L2_eq]
    simp only [Int.toNat_natCast, eg]
    refine bT (dT (by omega)) (gX (by omega) (gK hi (gI (by omega) (gI (by omega) (gR (by simp; omega) (gR (by simp) (gI (by omega) (gI (by omega) (gR (by simp; omega) (gR (by simp) (gI (by omega) ?_)))))))))))
    rw [List.take_succ_eq_append_getElem hi]
    have a1 : ∀ (q : List Rc) (r : Rc), crV (q ++ [r]) = crV q ++ [r.1 - 1, r.1, r.2.1 - 1, r.2.1] := fun q r => by simp [crV]
    have a2 : ∀ (q : List Rc) (r : Rc), crT (q ++ [r]) = crT q ++ [r.2.2.1 - 1, r.2.2.1, r.2.2.2 - 1, r.2.2.2] := fun q r => by simp [crT]
    rw [a1, a2, List.append_assoc, List.append_assoc]; rfl) (by
    rw [m_law35_critical_L2_eq]
    refine bF (dF (by omega)) ?_
    show some (Sum.inr (_, _)) = _
    rw [List.take_length])
  have e0 : (u ++ crV (l.take 0), v ++ crT (l.take 0)) = (u, v) := by simp [crV, crT]
  rw [e0] at h
  exact h
theorem p_critical {a b : List Rc} (ha : lvB a = true) (hb : lvB b = true) (hla : a.length ≤ 1000) (hlb : b.length ≤ 1000) : ∃ vs ts, m_law35_critical std a b = some (vs, ts) ∧ vs.length ≤ 100000 ∧ ts.length ≤ 100000 := by
  have e : ∀ (q : List Rc), (crV q).length = 4 * q.length ∧ (crT q).length = 4 * q.length := fun q => by
    unfold crV crT
    induction q with
    | nil => simp
    | cons r q ih => simp only [List.flatMap_cons, List.length_append, ih.1, ih.2, List.length_cons, List.length_nil]; omega
  have n1 : ([] ++ crV a ++ crV b).length ≤ 8000 := by simp [(e a).1, (e b).1]; omega
  have n2 : ([] ++ crT a ++ crT b).length ≤ 8000 := by simp [(e a).2, (e b).2]; omega
  have na := e a
  refine ⟨Lib.compact (sortI ([] ++ crV a ++ crV b)), Lib.compact (sortI ([] ++ crT a ++ crT b)), ?_, ?_, ?_⟩
  · rw [m_law35_critical_eq]
    refine bB (p_law35_critical_L1 ha hla (by simp) (by simp)) (gI (by omega) (bB (p_law35_critical_L2 hb hlb (by simp [na.1]; omega) (by simp [na.2]; omega)) (gI (by omega) (bB (v := sortI ([] ++ crV a ++ crV b)) ?_ (bB (v := sortI ([] ++ crT a ++ crT b)) ?_ (bB (v := Lib.compact (sortI ([] ++ crV a ++ crV b))) ?_ (bB (v := Lib.compact (sortI ([] ++ crT a ++ crT b))) ?_ rfl)))))))
    · rw [m_sortI_eq]; exact gR (by omega) rfl
    · rw [m_sortI_eq]; exact gR (by omega) rfl
    · rw [m_compI_eq]; exact gR (by rw [sortI_len]; omega) rfl
    · rw [m_compI_eq]; exact gR (by rw [sortI_len]; omega) rfl
  · have := compI_len (sortI ([] ++ crV a ++ crV b)); rw [sortI_len] at this; omega
  · have := compI_len (sortI ([] ++ crT a ++ crT b)); rw [sortI_len] at this; omega
theorem p_Pointwise_L1 {a b u m d : List Rc} (ha : lvB a = true) (hla : a.length ≤ 500) (hlb : b.length ≤ 500) (hu : GdL u fun x t => rOr (inL a x t) (inL b x t)) (hm : GdL m fun x t => rAnd (inL a x t) (inL b x t)) (hd : GdL d fun x t => rSub (inL a x t) (inL b x t)) {vs ts : List Int} (hvs : vs.length ≤ 100000) (k : Nat) :
    loop (m_law35_RectanglePointwise_L1 std a b u m d vs ts (k : Int)) 0 = some (.inr ()) := by
  have n1 := hu.n
  have n2 := hm.n
  have n3 := hd.n
  have hc : chk0 a = 0 := by unfold chk0; rw [if_pos ha, if_pos hla]
  refine loop_to' (n := vs.length) (fun i => (i : Int)) (by omega) (fun i hi => ?_) (by rw [m_law35_RectanglePointwise_L1_eq]; exact bF (dF (by omega)) rfl)
  rw [m_law35_RectanglePointwise_L1_eq]
  obtain ⟨v, hv⟩ : ∃ v, List.getD vs (Int.toNat (i : Int)) 0 = v := ⟨_, rfl⟩
  obtain ⟨t, ht⟩ : ∃ v, List.getD ts (Int.toNat (k : Int)) 0 = v := ⟨_, rfl⟩
  simp only [hv, ht]
  have q1 := hu.q v t
  have q2 := hm.q v t
  have q3 := hd.q v t
  refine bT (dT (by omega)) (gX (by omega) (gK (by omega) (bB (p_in a (by omega) v t) (bB (p_in b (by omega) v t) (bB (v := false) (bB (p_in u (by omega) v t) ?_) (bF rfl (gI (by omega) rfl)))))))
  rw [q1, p_in m (by omega) v t, p_in d (by omega) v t, q2, q3, p_Has a (by omega) v t, hc]
  cases inL a v t <;> cases inL b v t <;> rfl
theorem pl_RectanglePointwise (a b : List Rc) : m_law35_RectanglePointwise std a b = some true := by
  rw [m_law35_RectanglePointwise_eq]
  refine bB p_awake (bF rfl ?_)
  by_cases h : a.length ≤ 8 ∧ b.length ≤ 8 ∧ lvB a = true ∧ lvB b = true
  · obtain ⟨la, lb, va, vb⟩ := h
    obtain ⟨c1, f1, w1, h1, _, _, _, k1⟩ := res_ex rOr a b
    obtain ⟨c2, f2, w2, h2, _, _, _, k2⟩ := res_ex rAnd a b
    obtain ⟨c3, f3, w3, h3, _, _, _, k3⟩ := res_ex rSub a b
    have hc : chk2 a b = 0 := chk2_zero.2 ⟨va, vb, by omega, by omega⟩
    have hbd : ∀ {rule : Bool → Bool → Bool}, IsRule rule → (flatG (segC rule a b)).length ≤ 500 := fun hr => by
      have h1 := segC_len hr va vb (by omega) (by omega)
      have h2 : (2 * (a.length + b.length) - 1) * (a.length + b.length) ≤ 31 * 16 := Nat.mul_le_mul (by omega) (by omega)
      omega
    have z1 := k1 hc (hbd .or)
    have z2 := k2 hc (hbd .and)
    have z3 := k3 hc (hbd .sub)
    have ga := GdL.self va (show a.length ≤ 500 by omega)
    have gb := GdL.self vb (show b.length ≤ 500 by omega)
    have g1 := op_good .or ga gb w1 z1
    have g2 := op_good .and ga gb w2 z2
    have g3 := op_good .sub ga gb w3 z3
    obtain ⟨vs, ts, hcr, hvs, hts⟩ := p_critical va vb (by omega) (by omega)
    have W : ∀ {x : Option (List Rc × Int)} {rule : Bool → Bool → Bool} {p q : List Rc} {c : List Rc} {e : Int}, x = some (resC rule p q) → resC rule p q = (c, e) → x = some (c, e) := fun h h' => h.trans (congrArg some h')
    refine bB (v := false) (bF (dF (by omega)) (bF (dF (by omega)) (bB (p_ref35_List a (by omega)) (bF (by rw [va]; rfl) (bB (p_ref35_List b (by omega)) (by rw [vb]; rfl)))))) (bF rfl ?_)
    refine bB (W (p_Union a b (by omega) (by omega)) w1) (bB (W (p_Meet a b (by omega) (by omega)) w2) (bB (W (p_Minus a b (by omega) (by omega)) w3) (bB (v := false) (bF (nF (eT z1)) (bF (nF (eT z2)) (congrArg some (nF (eT z3))))) (bF rfl (bB hcr ?_)))))
    have hl : loop (m_law35_RectanglePointwise_L2 std a b c1 c2 c3 vs ts) 0 = some (.inr ()) := by
      refine loop_to' (n := ts.length) (fun i => (i : Int)) (by omega) (fun i hi => ?_) (by rw [m_law35_RectanglePointwise_L2_eq]; exact bF (dF (by omega)) rfl)
      rw [m_law35_RectanglePointwise_L2_eq]
      exact bT (dT (by omega)) (gX (by omega) (gK (by omega) (bB (p_Pointwise_L1 va (by omega) (by omega) g1 g2 g3 hvs i) (gI (by omega) rfl))))
    exact bB hl rfl
  · refine bB (v := true) ?_ (bT rfl rfl)
    by_cases la : a.length ≤ 8
    · refine bF (dF (by omega)) ?_
      by_cases lb : b.length ≤ 8
      · refine bF (dF (by omega)) (bB (p_ref35_List a (by omega)) ?_)
        cases va : lvB a with
        | false => rfl
        | true =>
          refine bF rfl (bB (p_ref35_List b (by omega)) ?_)
          cases vb : lvB b with
          | false => rfl
          | true => exact absurd ⟨la, lb, va, vb⟩ h
      · exact bT (dT (by omega)) rfl
    · exact bT (dT (by omega)) rfl
end Go.Proofs.Ytkdffpncpikdmaa
