/-
  Rectangles: membership, the sets at one time, areas: as the reference has them.
-/
import Derived.Test.YtkdffpncpikdmaaGreatTZ
namespace Go.Proofs.YtkdffpncpikdmaaGreat
open Go.RowKit

theorem segC_eq {rule : Bool → Bool → Bool} (hr : IsRule rule) {a b : List Rc} (ha : lvB a = true) (hb : lvB b = true) (hla : a.length ≤ 500) (hlb : b.length ≤ 500) {g : List Seg} (hg : CanG g) (h : ∀ x t, memB (setAt g t) x = rule (inL a x t) (inL b x t)) : segC rule a b = g :=
  uniqL (segC_ok hr ha hb hla hlb).1 hg fun x t => by rw [(segC_ok hr ha hb hla hlb).2, h]
theorem p_awake : m_law35_awake std = some true := by
  have hL : lvB [(5, 15, 5, 10), (0, 10, 0, 10)] = true := by decide
  have hg : CanG [(0, 5, [(0, 10)]), (5, 10, [(0, 15)])] := by
    refine ⟨fun s hs => ?_, .inr ⟨rfl, by decide⟩, trivial⟩
    rcases List.mem_cons.1 hs with rfl | hs
    · exact ⟨by decide, by simp, Can.one (by decide)⟩
    · rcases List.mem_cons.1 hs with rfl | hs
      · exact ⟨by decide, by simp, Can.one (by decide)⟩
      · cases hs
  have he := segC_eq IsRule.or (a := [(5, 15, 5, 10), (0, 10, 0, 10)]) (b := []) hL rfl (by decide) (by decide) hg (fun x t => by
    rw [Bool.eq_iff_iff, memB_iff]
    unfold rOr inL inR
    simp only [List.any_cons, List.any_nil, Bool.or_false, Bool.or_eq_true, Bool.and_eq_true, decide_eq_true_eq, setAt]
    split
    · rw [mem_one]; omega
    · split
      · rw [mem_one]; omega
      · constructor
        · intro h; exact absurd h (mem_nil x)
        · omega)
  have hc : m_rectangle_Canonical std [(5, 15, 5, 10), (0, 10, 0, 10)] = some ([(0, 10, 0, 5), (0, 15, 5, 10)], 0) := by
    rw [p_Canonical _ (by decide)]
    unfold resC
    rw [if_pos (by decide), he]
    rfl
  rw [m_law35_awake_eq]
  exact bB (v := (5, 15, 5, 10)) rfl (bB (v := (0, 10, 0, 10)) rfl (bB hc (bB (v := true) (bT rfl (bB (v := (0, 10, 0, 5)) rfl (bB (v := (0, 15, 5, 10)) rfl (bB (p_slices_Equal_2 _ _ (by decide)) rfl)))) rfl)))
theorem p_few (l : List Rc) : m_law35_few std l = some (decide (l.length ≤ 30)) := by
  rw [m_law35_few_eq, m_slices_ContainsFunc_3_eq, m_slices_IndexFunc_3_eq, m_law35_few_1_eq]
  by_cases h : l.length ≤ 30
  · rw [dT h]
    exact bB (v := false) (bB (v := -1) (bB (v := false) (congrArg some (dF (by omega))) (bF rfl (gI (by omega) rfl))) rfl) rfl
  · rw [dF h]
    exact bB (v := true) (bB (v := 0) (bB (v := true) (congrArg some (dT (by omega))) (bT rfl rfl)) rfl) rfl
theorem inR_model (r : Rc) (v t : Int) : (Option.bind (bif (decide (r.1 ≤ v)) then bif (decide (v < r.2.1)) then bif (decide (r.2.2.1 ≤ t)) then (some (decide (t < r.2.2.2))) else (some false) else (some false) else (some false) : Option Bool) fun x => (some x)) = some (inR r v t) := by
  unfold inR
  cases decide (r.1 ≤ v) <;> cases decide (v < r.2.1) <;> cases decide (r.2.2.1 ≤ t) <;> rfl
theorem any_not_all (l : List Rc) (p : Rc → Bool) : (!l.all fun r => !p r) = l.any p := by
  rw [List.any_eq_not_all_not]
theorem p_4 (l : List Rc) (hl : l.length ≤ 1000000) (v t : Int) : m_slices_ContainsFunc_4 std l v t = some (inL l v t) := by
  have h := p_index (d := ((0, 0, 0, 0) : Rc)) (l := l) (p := fun r => !inR r v t) (B := m_slices_IndexFunc_4_L1 std v t l) (by omega) (fun i hi => by
    rw [m_slices_IndexFunc_4_L1_eq, m_rectangle_Has_1_eq]
    simp only [Int.toNat_natCast]
    obtain ⟨r, hr⟩ : ∃ r, List.getD l i (0, 0, 0, 0) = r := ⟨_, rfl⟩
    simp only [hr]
    refine bT (dT (by omega)) (gX (by omega) (gK hi (bB (inR_model r v t) ?_)))
    cases inR r v t with
    | true => rfl
    | false => exact gI (by omega) rfl) (by rw [m_slices_IndexFunc_4_L1_eq]; exact bF (dF (by omega)) rfl)
  rw [m_slices_ContainsFunc_4_eq, m_slices_IndexFunc_4_eq]
  refine h.trans ?_
  rw [any_not_all]; rfl
def chk0 (l : List Rc) : Int := if lvB l = true then (if l.length ≤ 500 then 0 else 5) else 1
theorem p_check_2 (l : List Rc) (hl : l.length ≤ 1000000) : m_rectangle_check_2 std l = some (chk0 l) := by
  rw [m_rectangle_check_2_eq, p_rect_bad l (by omega)]
  unfold chk0
  cases h1 : lvB l with
  | false => exact bB rfl (bT rfl rfl)
  | true =>
    rw [if_pos rfl]
    refine bB rfl (bF rfl (gI (by omega) ?_))
    by_cases h3 : l.length ≤ 500
    · rw [if_pos h3]; exact bF (dF (by omega)) rfl
    · rw [if_neg h3]; exact bT (dT (by omega)) rfl
theorem p_Has (l : List Rc) (hl : l.length ≤ 1000000) (v t : Int) : m_rectangle_Has std v t l = some (chk0 l == 0 && inL l v t) := by
  rw [m_rectangle_Has_eq, p_check_2 l hl]
  refine bB (v := (chk0 l == 0 && inL l v t)) (bB rfl ?_) rfl
  cases h : chk0 l == 0 with
  | true => exact bT rfl (bB (p_4 l hl v t) rfl)
  | false => exact bF rfl rfl

theorem setAt_can : ∀ {g : List Seg}, CanG g → ∀ t, Can (setAt g t) := by
  intro g
  induction g with
  | nil => intro _ t; exact Can.nil
  | cons s g ih =>
    intro h t
    show Can (if s.1 ≤ t ∧ t < s.2.1 then s.2.2 else setAt g t)
    split
    · exact (h.ok s (by simp)).can
    · exact ih h.tail t
theorem flatG_mem {g : List Seg} {r : Rc} (h : r ∈ flatG g) : ∃ s ∈ g, ∃ v ∈ s.2.2, r = (v.1, v.2, s.1, s.2.1) := by
  unfold flatG at h
  obtain ⟨s, hs, h⟩ := List.mem_flatMap.1 h
  unfold rcs at h
  obtain ⟨v, hv, rfl⟩ := List.mem_map.1 h
  exact ⟨s, hs, v, hv, rfl⟩
theorem flatG_valid {g : List Seg} (h : CanG g) (hb : ∀ x t, inL (flatG g) x t = true → (-62135596800 ≤ x ∧ x < 253402300800) ∧ -62135596800 ≤ t ∧ t < 253402300800) : lvB (flatG g) = true := by
  rw [lvB_iff]
  intro r hr
  obtain ⟨s, hs, v, hv, rfl⟩ := flatG_mem hr
  have h1 := h.ok s hs
  have h2 := h1.can.ne v hv
  have h3 := h1.lt
  have p1 := hb v.1 s.1 (by
    unfold inL inR; rw [List.any_eq_true]; exact ⟨_, hr, by simp; omega⟩)
  have p2 := hb (v.2 - 1) (s.2.1 - 1) (by
    unfold inL inR; rw [List.any_eq_true]; exact ⟨_, hr, by simp; omega⟩)
  show (_ ≤ v.1 ∧ v.1 < v.2 ∧ v.2 ≤ _) ∧ _ ≤ s.1 ∧ s.1 < s.2.1 ∧ s.2.1 ≤ _
  omega
/-- the canonical list of one list has its pairs -/
theorem can_pairs {l : List Rc} (h : lvB l = true) (hl : l.length ≤ 500) : CanG (segC rOr l []) ∧ ∀ x t, memB (setAt (segC rOr l []) t) x = inL l x t := by
  obtain ⟨h1, h2⟩ := segC_ok IsRule.or (a := l) (b := []) h rfl hl (by simp)
  refine ⟨h1, fun x t => ?_⟩
  rw [h2]
  show (inL l x t || inL [] x t) = inL l x t
  have : inL [] x t = false := rfl
  rw [this, Bool.or_false]
/-- both times change places -/
def tuR (r : Rc) : Rc := (r.2.2.1, r.2.2.2, r.1, r.2.1)
theorem tuR_tuR (r : Rc) : tuR (tuR r) = r := rfl
theorem tu_valid {l : List Rc} (h : lvB l = true) : lvB (l.map tuR) = true := by
  rw [lvB_iff] at h ⊢
  intro r hr
  obtain ⟨q, hq, rfl⟩ := List.mem_map.1 hr
  have := h q hq
  exact ⟨this.2, this.1⟩
theorem tu_inL (l : List Rc) (x t : Int) : inL (l.map tuR) x t = inL l t x := by
  unfold inL
  rw [List.any_map]
  congr 1
  funext r
  show inR (tuR r) x t = inR r t x
  rw [Bool.eq_iff_iff]
  unfold inR tuR
  simp only [Bool.and_eq_true, decide_eq_true_eq]
  omega
theorem p_rectangle_During_L1 {l : List Rc} (hl : l.length ≤ 1000000) : loop (m_rectangle_During_L1 std l) (0, ([] : List Rc)) = some (l.map tuR) := by
  have h := loop_up (B := m_rectangle_During_L1 std l) (n := l.length) (fun i => (l.take i).map tuR) (e := l.map tuR) (by omega) (fun i hi => by
    have eg : l.getD i (0, 0, 0, 0) = l[i] := by rw [List.getD_eq_getElem?_getD, List.getElem?_eq_getElem hi]; rfl
    rw [m_rectangle_During_L1_eq]
    simp only [Int.toNat_natCast, eg]
    refine bT (dT (by omega)) (gX (by omega) (gK hi (gR (by simp; omega) (gR (by simp) (gI (by omega) ?_)))))
    rw [List.take_succ_eq_append_getElem hi, List.map_append]; rfl) (by
    rw [m_rectangle_During_L1_eq, List.take_length]
    exact bF (dF (by omega)) rfl)
  exact h
theorem chk0_ok {l : List Rc} (h : lvB l = true) (hl : l.length ≤ 500) : chk0 l = 0 := by unfold chk0; rw [if_pos h, if_pos hl]
theorem p_rAt {l : List Rc} (h : lvB l = true) (hl : l.length ≤ 500) (t : Int) : m_rectangle_At std t l = some (tS l t) := by
  rw [m_rectangle_At_eq]
  exact bB (p_check_2 l (by omega)) (bF (nF (eT (chk0_ok h hl))) (bB (p_times h (by omega) t) rfl))
theorem p_rDuring {l : List Rc} (h : lvB l = true) (hl : l.length ≤ 500) (x : Int) : m_rectangle_During std x l = some (tS (l.map tuR) x) := by
  rw [m_rectangle_During_eq]
  exact bB (p_check_2 l (by omega)) (bF (nF (eT (chk0_ok h hl))) (bB (p_rectangle_During_L1 (by omega)) (bB (p_times (tu_valid h) (by simp; omega) x) rfl)))

theorem resC_len (rule : Bool → Bool → Bool) (a b : List Rc) : (resC rule a b).1.length ≤ 500 := by
  unfold resC
  split
  · split
    · assumption
    · simp
  · simp
theorem resC_ok {rule : Bool → Bool → Bool} {a b : List Rc} (h : (resC rule a b).2 = 0) : chk2 a b = 0 ∧ (flatG (segC rule a b)).length ≤ 500 ∧ (resC rule a b).1 = flatG (segC rule a b) := by
  unfold resC at h ⊢
  by_cases h0 : chk2 a b = 0
  · rw [if_pos h0] at h ⊢
    by_cases h1 : (flatG (segC rule a b)).length ≤ 500
    · rw [if_pos h1]; exact ⟨h0, h1, rfl⟩
    · rw [if_neg h1] at h; cases h
  · rw [if_neg h0] at h; exact absurd h h0
theorem resC_err (rule : Bool → Bool → Bool) (a b : List Rc) : (resC rule a b).2 = 0 ∨ (resC rule a b).2 = 5 ∨ ((resC rule a b).2 = 1 ∧ chk2 a b ≠ 0) := by
  unfold resC
  by_cases h0 : chk2 a b = 0
  · rw [if_pos h0]
    split
    · exact .inl rfl
    · exact .inr (.inl rfl)
  · rw [if_neg h0]
    unfold chk2 at h0 ⊢
    split at h0
    · split at h0
      · exact absurd rfl h0
      · rename_i h1 h2; rw [if_pos h1, if_neg h2]; exact .inr (.inl rfl)
    · rename_i h1; rw [if_neg h1]; exact .inr (.inr ⟨rfl, by decide⟩)
/-- the result, as two -/
theorem res_ex (rule : Bool → Bool → Bool) (a b : List Rc) : ∃ c e, resC rule a b = (c, e) ∧ c.length ≤ 500 ∧ (e = 0 → chk2 a b = 0 ∧ (flatG (segC rule a b)).length ≤ 500 ∧ c = flatG (segC rule a b)) ∧ (e = 0 ∨ e = 5 ∨ (e = 1 ∧ chk2 a b ≠ 0)) ∧ (e ≠ 0 → c = []) ∧ (chk2 a b = 0 → (flatG (segC rule a b)).length ≤ 500 → e = 0) :=
  ⟨(resC rule a b).1, (resC rule a b).2, rfl, resC_len rule a b, resC_ok, resC_err rule a b, fun h => by
    unfold resC at h ⊢
    by_cases h0 : chk2 a b = 0
    · rw [if_pos h0] at h ⊢
      by_cases h1 : (flatG (segC rule a b)).length ≤ 500
      · rw [if_pos h1] at h; exact absurd rfl h
      · rw [if_neg h1]
    · rw [if_neg h0], fun h0 h1 => by unfold resC; rw [if_pos h0, if_pos h1]⟩
theorem p_refHas (l : List Rc) (hl : l.length ≤ 1000000) (v t : Int) : m_ref35_Has std v t l = some (inL l v t) := by
  have h := p_all (d := ((0, 0, 0, 0) : Rc)) (l := l) (p := fun r => !inR r v t) (B := m_ref35_Has_L1 std l t v) (by omega) (fun i hi => by
    rw [m_ref35_Has_L1_eq]
    simp only [Int.toNat_natCast]
    obtain ⟨r, hr⟩ : ∃ r, List.getD l i (0, 0, 0, 0) = r := ⟨_, rfl⟩
    simp only [hr]
    refine bT (dT (by omega)) (bB (v := inR r v t) ?_ ?_)
    · unfold inR
      cases decide (r.1 ≤ v) with
      | false => exact bF rfl (gX (by omega) (gK hi rfl))
      | true =>
        refine bT rfl ?_
        cases decide (v < r.2.1) with
        | false => exact bF rfl (gX (by omega) (gK hi rfl))
        | true =>
          refine bT rfl ?_
          cases decide (r.2.2.1 ≤ t) with
          | false => exact bF rfl (gX (by omega) (gK hi rfl))
          | true => exact bT rfl (gX (by omega) (gK hi rfl))
    · cases inR r v t with
      | true => rfl
      | false => exact bF rfl (gI (by omega) rfl)) (by rw [m_ref35_Has_L1_eq]; exact bF (dF (by omega)) rfl)
  rw [m_ref35_Has_eq, h]
  have : (l.all fun r => !inR r v t) = !inL l v t := by
    have := any_not_all l (fun r => inR r v t)
    unfold inL
    rw [← this, Bool.not_not]
  rw [this]
  cases inL l v t <;> rfl
/-- the valid and the transaction times changed, one time looked at -/
theorem du_take {l : List Rc} {t : Int} {i : Nat} (hi : i < l.length) : atL ((l.take (i + 1)).map tuR) t = atL ((l.take i).map tuR) t ++ (if (decide ((l.getD i (0, 0, 0, 0)).1 ≤ t) && decide (t < (l.getD i (0, 0, 0, 0)).2.1)) = true then [((l.getD i (0, 0, 0, 0)).2.2.1, (l.getD i (0, 0, 0, 0)).2.2.2)] else []) := by
  have e : l.getD i (0, 0, 0, 0) = l[i] := by rw [List.getD_eq_getElem?_getD, List.getElem?_eq_getElem hi]; rfl
  rw [List.take_succ_eq_append_getElem hi, e, List.map_append]
  unfold atL
  rw [List.filter_append, List.map_append]
  congr 1
  by_cases h : inT t (tuR l[i]) = true
  · have h' : (decide (l[i].1 ≤ t) && decide (t < l[i].2.1)) = true := h
    rw [if_pos h']
    simp only [List.map_cons, List.map_nil, List.filter, h]; rfl
  · have h' : ¬ (decide (l[i].1 ≤ t) && decide (t < l[i].2.1)) = true := h
    rw [if_neg h']
    simp only [List.map_cons, List.map_nil, List.filter, Bool.not_eq_true] at h ⊢
    rw [h]; rfl
theorem p_refDuring_L1 {l : List Rc} (hl : l.length ≤ 1000000) (t : Int) : loop (m_ref35_During_L1 std l t) (0, ([] : List Sp)) = some (atL (l.map tuR) t) := by
  have h := loop_up (B := m_ref35_During_L1 std l t) (n := l.length) (fun i => atL ((l.take i).map tuR) t) (e := atL (l.map tuR) t) (by omega) (fun i hi => by
    have hlen := atL_len ((l.take i).map tuR) t
    rw [List.length_map, List.length_take] at hlen
    rw [du_take hi, m_ref35_During_L1_eq]
    generalize atL ((l.take i).map tuR) t = acc at *
    simp only [Int.toNat_natCast]
    refine bT (dT (by omega)) ?_
    obtain ⟨r, hr⟩ : ∃ r, List.getD l i (0, 0, 0, 0) = r := ⟨_, rfl⟩
    simp only [hr]
    by_cases h1 : r.1 ≤ t
    · by_cases h2 : t < r.2.1
      · rw [dT h1, dT h2]
        exact bB (v := true) (bT rfl (gX (by omega) (gK hi rfl))) (bB (v := acc ++ [(r.2.2.1, r.2.2.2)]) (bT rfl (gR (by omega) (gR (by simp) rfl))) (gI (by omega) rfl))
      · rw [dT h1, dF h2]
        exact bB (v := false) (bT rfl (gX (by omega) (gK hi rfl))) (bB (v := acc) (bF rfl rfl) (gI (by omega) (by simp)))
    · rw [dF h1]
      exact bB (v := false) (bF rfl (gX (by omega) (gK hi rfl))) (bB (v := acc) (bF rfl rfl) (gI (by omega) (by simp)))) (by
    rw [m_ref35_During_L1_eq]
    refine bF (dF (by omega)) ?_
    show some (Sum.inr (atL ((l.take l.length).map tuR) t)) = _
    rw [List.take_length])
  exact h
theorem p_refDuring {l : List Rc} (h : lvB l = true) (hl : l.length ≤ 2000) (t : Int) : m_ref35_During std t l = some (tS (l.map tuR) t) := by
  have h1 := tS_len (tu_valid h) t
  have h2 := atL_len (l.map tuR) t
  rw [List.length_map] at h1 h2
  rw [m_ref35_During_eq, p_refDuring_L1 (by omega), Option.bind_some, p_ref12_Of (by omega), if_pos (atL_sps (tu_valid h) t)]
  have : (ofS (atL (l.map tuR) t)).length ≤ 2000 := by show (tS (l.map tuR) t).length ≤ 2000; omega
  rw [if_pos this]; rfl

/-! measures -/
def meas : List Sp → Int
  | [] => 0
  | s :: l => (s.2 - s.1) + meas l
theorem meas_bd : ∀ {l : List Sp} {a hi : Int}, Can l → (∀ s ∈ l, a ≤ s.1 ∧ s.2 ≤ hi) → a ≤ hi → 0 ≤ meas l ∧ meas l ≤ hi - a := by
  intro l
  induction l with
  | nil => intro a hi _ _ h; exact ⟨Int.le_refl _, by show (0 : Int) ≤ _; omega⟩
  | cons s l ih =>
    intro a hi hc h hah
    have h1 := hc.ne s (by simp)
    have h2 := h s (by simp)
    have h3 := (List.pairwise_cons.1 hc.pw).1
    have h4 := ih (a := s.2) (hi := hi) hc.tail (fun t ht => ⟨by have := h3 t ht; omega, (h t (by simp [ht])).2⟩) h2.2
    show 0 ≤ (s.2 - s.1) + meas l ∧ (s.2 - s.1) + meas l ≤ hi - a
    omega
theorem meas_snoc (l : List Sp) (s : Sp) : meas (l ++ [s]) = meas l + (s.2 - s.1) := by
  induction l with
  | nil => simp [meas]
  | cons t l ih => show (t.2 - t.1) + meas (l ++ [s]) = (t.2 - t.1) + meas l + (s.2 - s.1); rw [ih]; omega
theorem TimeL.meas {l : List Sp} (h : TimeL l) : 0 ≤ meas l ∧ meas l ≤ 315537897600 := by
  have := meas_bd h.can h.line (by omega)
  omega
theorem p_Measure {l : List Sp} (h : TimeL l) (hn : l.length ≤ 2000) : m_runs_Measure std l = some (meas l) := by
  have hh := loop_to' (B := m_runs_Measure_L1 std l) (n := l.length) (fun i => (meas (l.take i), (i : Int))) (e := meas l) (by omega) (fun i hi => by
    have hc : Can (l.take i) := ⟨fun s hs => h.can.ne s (List.mem_of_mem_take hs), h.can.pw.sublist (List.take_sublist _ _)⟩
    have h1 := meas_bd hc (fun s hs => h.line s (List.mem_of_mem_take hs)) (by omega)
    have h2 := h.can.ne' hi
    have h3 := h.line l[i] (List.getElem_mem hi)
    rw [list_fr l hi] at h3
    simp only [] at h3
    rw [m_runs_Measure_L1_eq]
    simp only [Int.toNat_natCast, fr_def, tt_def]
    refine bT (dT (by omega)) (gX (by omega) (gK hi (gI (by omega) (gI (by omega) (gI (by omega) ?_)))))
    rw [List.take_succ_eq_append_getElem hi, list_fr l hi, meas_snoc]; rfl) (by
    rw [m_runs_Measure_L1_eq]
    refine bF (dF (by omega)) ?_
    simp only [List.take_length])
  have hh' : loop (m_runs_Measure_L1 std l) (0, 0) = some (meas l) := hh
  rw [m_runs_Measure_eq, p_runs_Valid', dT hn, canB_iff.2 ⟨h.can, h.onLine⟩]
  exact bB rfl (bF rfl (bB hh' rfl))

/-! sums over time -/
def sumF (f : Int → Int) : Nat → Int
  | 0 => 0
  | n + 1 => sumF f n + f (-62135596800 + n)
theorem sumF_congr {f g : Int → Int} (h : ∀ t, f t = g t) (n : Nat) : sumF f n = sumF g n := by
  induction n with
  | zero => rfl
  | succ n ih => show sumF f n + f _ = sumF g n + g _; rw [ih, h]
theorem sumF_add (f g : Int → Int) (n : Nat) : sumF (fun t => f t + g t) n = sumF f n + sumF g n := by
  induction n with
  | zero => rfl
  | succ n ih =>
    show sumF (fun t => f t + g t) n + (f (-62135596800 + n) + g (-62135596800 + n)) = (sumF f n + f (-62135596800 + n)) + (sumF g n + g (-62135596800 + n))
    rw [ih]; omega
theorem sumF_zero (n : Nat) : sumF (fun _ => 0) n = 0 := by
  induction n with
  | zero => rfl
  | succ n ih => show sumF _ n + 0 = 0; rw [ih]; rfl
/-- m between two times -/
def ind (a b m : Int) (t : Int) : Int := if a ≤ t ∧ t < b then m else 0
/-- the part of a span of times that lies before a time -/
def cl (a b x : Int) : Int := if x ≤ a then 0 else if b ≤ x then b - a else x - a
theorem cl_in {a b x : Int} (h : a ≤ x ∧ x < b) : cl a b (x + 1) = cl a b x + 1 := by
  unfold cl
  repeat' split
  all_goals omega
theorem cl_out {a b x : Int} (hab : a ≤ b) (h : ¬ (a ≤ x ∧ x < b)) : cl a b (x + 1) = cl a b x := by
  unfold cl
  repeat' split
  all_goals omega
theorem sumF_ind {a b m : Int} (ha : -62135596800 ≤ a) (hab : a ≤ b) : ∀ n : Nat, sumF (ind a b m) n = cl a b (-62135596800 + n) * m := by
  intro n
  induction n with
  | zero =>
    have : cl a b (-62135596800 + ((0 : Nat) : Int)) = 0 := by
      unfold cl
      exact if_pos (by omega)
    rw [this, Int.zero_mul]; rfl
  | succ n ih =>
    have e : -62135596800 + ((n + 1 : Nat) : Int) = (-62135596800 + (n : Int)) + 1 := by omega
    show sumF (ind a b m) n + ind a b m (-62135596800 + n) = _
    rw [ih, e]
    unfold ind
    by_cases h : a ≤ -62135596800 + (n : Int) ∧ -62135596800 + (n : Int) < b
    · rw [if_pos h, cl_in h, Int.add_mul, Int.one_mul]
    · rw [if_neg h, cl_out hab h, Int.add_zero]
theorem sumF_ind' {a b m : Int} (ha : -62135596800 ≤ a) (hab : a ≤ b) (hb : b ≤ 253402300800) : sumF (ind a b m) 315537897600 = (b - a) * m := by
  rw [sumF_ind ha hab]
  have : cl a b (-62135596800 + ((315537897600 : Nat) : Int)) = b - a := by
    unfold cl
    repeat' split
    all_goals omega
  rw [this]
/-! the area, by ends -/
def arP (es : List Int) (l : List Rc) : Nat → Int
  | 0 => 0
  | n + 1 => arP es l n + (eAt es (n + 1) - eAt es n) * meas (tS l (eAt es n))
theorem tS_meas {l : List Rc} (h : lvB l = true) (t : Int) : 0 ≤ meas (tS l t) ∧ meas (tS l t) ≤ 315537897600 := (tS_time h t).meas
theorem arP_mono {es : List Int} (hes : es.Pairwise (· < ·)) {l : List Rc} (h : lvB l = true) : ∀ {i j : Nat}, i ≤ j → j ≤ es.length - 1 → arP es l i ≤ arP es l j := by
  intro i j hij
  induction j with
  | zero => intro _; have : i = 0 := by omega
            subst this; exact Int.le_refl _
  | succ j ih =>
    intro hj
    rcases Nat.lt_or_ge i (j + 1) with h1 | h1
    · have h2 := ih (by omega) (by omega)
      have h3 := eAt_lt hes j (by omega)
      have h4 := (tS_meas h (eAt es j)).1
      have h5 : 0 ≤ (eAt es (j + 1) - eAt es j) * meas (tS l (eAt es j)) := Int.mul_nonneg (by omega) h4
      show _ ≤ arP es l j + _
      omega
    · have : i = j + 1 := by omega
      subst this; exact Int.le_refl _
theorem p_rectangle_Area_L1 {l : List Rc} (hl : l.length ≤ 1000000) : loop (m_rectangle_Area_L1 std l) (0, ([] : List Int)) = some (txE l) := by
  have h := loop_up (B := m_rectangle_Area_L1 std l) (n := l.length) (fun i => txE (l.take i)) (e := txE l) (by omega) (fun i hi => by
    have hlen := txE_len (l.take i)
    rw [List.length_take] at hlen
    rw [txE_take hi, m_rectangle_Area_L1_eq]
    generalize txE (l.take i) = acc at *
    simp only [Int.toNat_natCast]
    exact bT (dT (by omega)) (gX (by omega) (gK hi (gR (by omega) (gR (by simp) (gI (by omega) rfl)))))) (by
    rw [m_rectangle_Area_L1_eq]
    refine bF (dF (by omega)) ?_
    show some (Sum.inr (txE (l.take l.length))) = _
    rw [List.take_length])
  exact h
theorem endS_time {l : List Rc} (h : lvB l = true) : ∀ x ∈ endS l, -62135596800 ≤ x ∧ x ≤ 253402300800 := fun x hx => by
  have h1 := ((endS_ok l).2.1 x).1 hx
  unfold txE at h1
  obtain ⟨r, hr, h2⟩ := List.mem_flatMap.1 h1
  have := lvB_iff.1 h r hr
  simp only [List.mem_cons, List.not_mem_nil, or_false] at h2
  rcases h2 with rfl | rfl <;> omega
theorem mul64_is {x y : Int} (hx : 0 ≤ x ∧ x < 18446744073709551616) (hy : 0 ≤ y ∧ y < 18446744073709551616) : m_bits_Mul64 std x y = some (x * y / 18446744073709551616, x * y % 18446744073709551616) := by
  unfold m_bits_Mul64 okU
  rw [dT hx, dT hy]; rfl
theorem add64_is {x y : Int} (hx : 0 ≤ x ∧ x < 18446744073709551616) (hy : 0 ≤ y ∧ y < 18446744073709551616) : m_bits_Add64 std x y 0 = some ((x + y) % 18446744073709551616, (x + y) / 18446744073709551616) := by
  unfold m_bits_Add64 okU
  rw [dT hx, dT hy]; rfl
theorem p_Area_L2 {l : List Rc} (h : lvB l = true) (hl : l.length ≤ 500) : loop (m_rectangle_Area_L2 std (endS l) l) (0, 0) = some (if arP (endS l) l ((endS l).length - 1) ≤ 9223372036854775807 then .inr (arP (endS l) l ((endS l).length - 1)) else .inl ()) := by
  obtain ⟨k1, k2, k3⟩ := endS_ok l
  have ht := endS_time h
  generalize endS l = es at *
  have hlt := eAt_lt k1
  have hin : ∀ i, i < es.length → -62135596800 ≤ eAt es i ∧ eAt es i ≤ 253402300800 := fun i hi => ht _ (eAt_mem.2 ⟨i, hi, rfl⟩)
  have hlp := loop_is (B := m_rectangle_Area_L2 std es l) (y := (0, 0)) (fun y => ∃ i : Nat, y = (arP es l i, (i : Int)) ∧ i ≤ es.length - 1 ∧ arP es l i ≤ 9223372036854775807) (fun y => es.length - y.2.toNat)
    (fun e => e = if arP es l (es.length - 1) ≤ 9223372036854775807 then .inr (arP es l (es.length - 1)) else .inl ()) ⟨0, rfl, Nat.zero_le _, by show (0 : Int) ≤ _; omega⟩ (by show _ - _ < _; omega) (by
    rintro y ⟨i, rfl, hi, hs⟩
    rw [m_rectangle_Area_L2_eq]
    by_cases hi1 : i + 1 < es.length
    · have e1 : Int.toNat ((i : Int) + 1) = i + 1 := by omega
      have g1 : List.getD es i 0 = eAt es i := rfl
      have g2 : List.getD es (i + 1) 0 = eAt es (i + 1) := rfl
      simp only [e1, Int.toNat_natCast, g1, g2]
      have b1 := hin i (by omega)
      have b2 := hin (i + 1) (by omega)
      have b3 := hlt i (by omega)
      obtain ⟨m1, m2⟩ := tS_meas h (eAt es i)
      have hm0 := arP_mono k1 h (Nat.zero_le i) hi
      have hmn := arP_mono k1 h (show i + 1 ≤ es.length - 1 by omega) (Nat.le_refl _)
      have hnx : arP es l (i + 1) = arP es l i + (eAt es (i + 1) - eAt es i) * meas (tS l (eAt es i)) := rfl
      have hz : arP es l 0 = 0 := rfl
      rw [hz] at hm0
      obtain ⟨p, hp⟩ : ∃ p, (eAt es (i + 1) - eAt es i) * meas (tS l (eAt es i)) = p := ⟨_, rfl⟩
      have hp0 : 0 ≤ p := by rw [← hp]; exact Int.mul_nonneg (by omega) m1
      rw [hp] at hnx
      have hM := mul64_is (x := eAt es (i + 1) - eAt es i) (y := meas (tS l (eAt es i))) (by omega) (by omega)
      rw [hp] at hM
      have q1 : 0 ≤ meas (tS l (eAt es i)) ∧ meas (tS l (eAt es i)) ≤ 18446744073709551615 := ⟨m1, Int.le_trans m2 (by decide)⟩
      have hA := add64_is (x := arP es l i) (y := p % 18446744073709551616) (by omega) (by omega)
      have pre : ∀ {r : (Int × Int) ⊕ (Unit ⊕ Int)}, (Option.bind (bif (!(p / 18446744073709551616 == 0)) then (some true) else bif (!((arP es l i + p % 18446744073709551616) / 18446744073709551616 == 0)) then (some true) else (some (decide (9223372036854775807 < (arP es l i + p % 18446744073709551616) % 18446744073709551616))) : Option Bool) fun x76 => bif x76 then (some (Sum.inr (Sum.inl ()))) else (some (Sum.inl ((arP es l i + p % 18446744073709551616) % 18446744073709551616, ((i : Int) + 1)))) : Option ((Int × Int) ⊕ (Unit ⊕ Int))) = some r → (grd (okI .i64 ((i : Int) + 1)) <| bif (decide (((i : Int) + 1) < (((List.length es) : Nat) : Int))) then
          grd (okIdx ((i : Int) + 1) ((List.length es))) <| grd (okKin (i + 1) ((List.length es))) <| grd (okIdx (i : Int) ((List.length es))) <| grd (okKin i ((List.length es))) <|
          grd (okI .i64 (eAt es (i + 1) - eAt es i)) <| grd (okI .u64 (eAt es (i + 1) - eAt es i)) <|
          Option.bind (m_rectangle_times std (eAt es i) l) fun l65 => Option.bind (m_runs_Measure std l65) fun n51 => grd (okI .u64 n51) <|
          Option.bind (m_bits_Mul64 std (eAt es (i + 1) - eAt es i) n51) fun (n52, n53) => Option.bind (m_bits_Add64 std (arP es l i) n53 0) fun (n54, n55) =>
          Option.bind (bif (!(n52 == 0)) then (some true) else bif (!(n55 == 0)) then (some true) else (some (decide (9223372036854775807 < n54))) : Option Bool) fun x76 =>
          bif x76 then (some (Sum.inr (Sum.inl ()))) else (some (Sum.inl (n54, ((i : Int) + 1))))
        else (some (Sum.inr (Sum.inr (arP es l i)))) : Option ((Int × Int) ⊕ (Unit ⊕ Int))) = some r := fun {r} hr =>
        gI (x := (i : Int) + 1) (by omega) (bT (c := decide (((i : Int) + 1) < ((es.length : Nat) : Int))) (dT (by omega)) (gX (i := (i : Int) + 1) (n := es.length) (by omega) (gK (i := i + 1) (n := es.length) (by omega) (gX (i := (i : Int)) (n := es.length) (by omega) (gK (i := i) (n := es.length) (by omega) (gI (x := eAt es (i + 1) - eAt es i) (by omega) (gU (x := eAt es (i + 1) - eAt es i) (by omega) (bB (p_times h (by omega) (eAt es i)) (bB (p_Measure (tS_time h (eAt es i)) (by have := tS_len h (eAt es i); omega)) (gU (x := meas (tS l (eAt es i))) q1 (bB hM (bB hA hr))))))))))))
      by_cases hbig : arP es l i + p ≤ 9223372036854775807
      · refine ⟨.inl (arP es l (i + 1), ((i + 1 : Nat) : Int)), pre (bB (v := false) (bF (nF (eT (by omega))) (bF (nF (eT (by omega))) (congrArg some (dF (by omega))))) (bF rfl ?_)), ⟨i + 1, rfl, by omega, by omega⟩, ?_⟩
        · have e3 : (arP es l i + p % 18446744073709551616) % 18446744073709551616 = arP es l (i + 1) := by omega
          rw [e3]; rfl
        · show es.length - Int.toNat ((i + 1 : Nat) : Int) < es.length - Int.toNat (i : Int)
          omega
      · refine ⟨.inr (.inl ()), pre (bB (v := true) ?_ (bT rfl rfl)), ?_⟩
        · by_cases c1 : p / 18446744073709551616 = 0
          · refine bF (nF (eT c1)) ?_
            by_cases c2 : (arP es l i + p % 18446744073709551616) / 18446744073709551616 = 0
            · exact bF (nF (eT c2)) (congrArg some (dT (by omega)))
            · exact bT (nT (eF c2)) rfl
          · exact bT (nT (eF c1)) rfl
        · rw [if_neg (by omega)]
    · have hil : i = es.length - 1 := by omega
      refine ⟨.inr (.inr (arP es l i)), gI (by omega) (bF (dF (by omega)) rfl), ?_⟩
      rw [← hil, if_pos hs])
  obtain ⟨e, h1, rfl⟩ := hlp
  exact h1
/-- the area, where it is a number of 64 bits -/
def areaV (x : Int) : Int := if x ≤ 9223372036854775807 then x else -1
theorem p_Area {l : List Rc} (h : lvB l = true) (hl : l.length ≤ 500) : m_rectangle_Area std l = some (areaV (arP (endS l) l ((endS l).length - 1))) := by
  have h1 := p_Area_L2 h hl
  have h0 := arP_mono (endS_ok l).1 h (Nat.zero_le ((endS l).length - 1)) (Nat.le_refl _)
  rw [m_rectangle_Area_eq]
  refine bB (p_check_2 l (by omega)) (bF (nF (eT (chk0_ok h hl))) (bB (p_rectangle_Area_L1 (by omega)) (bB (v := sortI (txE l)) ?_ (bB (v := endS l) ?_ (bB h1 ?_)))))
  · rw [m_sortI_eq]; exact gR (by rw [txE_len]; omega) rfl
  · rw [m_compI_eq]; exact gR (by rw [sortI_len, txE_len]; omega) rfl
  · unfold areaV
    by_cases hb : arP (endS l) l ((endS l).length - 1) ≤ 9223372036854775807
    · rw [if_pos hb, if_pos hb]
      exact gI (by have : arP (endS l) l 0 = 0 := rfl
                   omega) rfl
    · rw [if_neg hb, if_neg hb]
end Go.Proofs.YtkdffpncpikdmaaGreat
