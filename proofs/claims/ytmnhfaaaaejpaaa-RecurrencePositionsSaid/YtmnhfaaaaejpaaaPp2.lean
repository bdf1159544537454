/-
  Equations of models (printed by lift.py).
  RecurrencePositions: the plain law: candidates of one period and their places.
  RecurrencePositions: the plain law.
-/
import Derived.Test.YtmnhfaaaaejpaaaPpM
import Derived.Test.YtmnhfaaaaejpaaaPc2
namespace Go.Proofs.Ytmnhfaaaaejpaaa.R
open Go.RowKit Go.Proofs.Ytmnhfaaaaejpaaa
set_option maxRecDepth 100000

theorem m_law29_RecurrencePositions_eq (r_1 : Int) (r_2 : Int) (r_3 : Int) (r_4 : Int) (r_5 : Int) (start_1 : Int) (l_1 : Int) (m_1 : Int) (r_6 : List Int) (r_7 : List Int) (r_8 : List Int) (r_9 : List Int) (r_10 : List (Int × Int)) (r_11 : List Int) (r_12 : List Int) (r_13 : List Int) (r_14 : List Int) : m_law29_RecurrencePositions std r_1 r_2 r_3 r_4 r_5 start_1 l_1 m_1 r_6 r_7 r_8 r_9 r_10 r_11 r_12 r_13 r_14 =
((Option.bind (
    Option.bind (m_law29_awake std) fun b38 =>
    bif (!b38) then
      (some true)
    else
      Option.bind (m_law29_long std r_1 r_2 r_3 r_4 r_5 r_6 r_7 r_8 r_9 r_10 r_11 r_12 r_13 r_14) fun b39 =>
      bif b39 then
        (some true)
      else
        Option.bind (m_recurrence_Valid std r_1 r_2 r_3 r_4 r_5 r_6 r_7 r_8 r_9 r_10 r_11 r_12 r_13 r_14) fun b40 =>
        (some (!b40)) : Option ((Bool))) fun x132 =>
  bif x132 then
    Option.bind (m_law29_awake std) fun b41 =>
    (some b41)
  else
    Option.bind (m_recurrence_Matches std r_1 r_2 r_3 r_4 r_5 start_1 l_1 r_6 r_7 r_8 r_9 r_10 r_11 r_12 r_13 (([] : List Int))) fun (b42, n83) =>
    Option.bind (m_recurrence_Matches std r_1 r_2 r_3 r_4 r_5 start_1 l_1 r_6 r_7 r_8 r_9 r_10 r_11 r_12 r_13 ([1])) fun (b43, n84) =>
    Option.bind (m_recurrence_Matches std r_1 r_2 r_3 r_4 r_5 start_1 l_1 r_6 r_7 r_8 r_9 r_10 r_11 r_12 r_13 ([(-1)])) fun (b44, n85) =>
    Option.bind (m_recurrence_Matches std r_1 r_2 r_3 r_4 r_5 start_1 l_1 r_6 r_7 r_8 r_9 r_10 r_11 r_12 r_13 ([1, (-1)])) fun (b45, n86) =>
    Option.bind (
      bif (!(n83 == n84)) then
        (some true)
      else
        bif (!(n83 == n85)) then
          (some true)
        else
          bif (!(n83 == n86)) then
            (some true)
          else
            (some (!(n83 == 0))) : Option ((Bool))) fun x134 =>
    bif x134 then
      Option.bind (
        bif (n83 == n84) then
          bif (n83 == n85) then
            (some (n83 == n86))
          else
            (some false)
        else
          (some false) : Option ((Bool))) fun x137 =>
      (some x137)
    else
      Option.bind (
        bif b43 then
          bif (!b42) then
            (some (true, b44, true))
          else
            (some (true, b44, (!(b45 == true))))
        else
          bif b44 then
            bif (!b42) then
              (some (false, true, true))
            else
              (some (false, true, (!(b45 == true))))
          else
            (some (false, false, (!(b45 == false)))) : Option ((Bool × Bool × Bool))) fun (b49, c4, x142) =>
      bif x142 then
        (some false)
      else
        Option.bind (m_recurrence_Matches std r_1 r_2 r_3 r_4 r_5 start_1 m_1 r_6 r_7 r_8 r_9 r_10 r_11 r_12 r_13 (([] : List Int))) fun (b50, n87) =>
        Option.bind (m_recurrence_Period std r_1 r_2 r_3 r_4 r_5 start_1 l_1 r_6 r_7 r_8 r_9 r_10 r_11 r_12 r_13 r_14) fun (n88, n89) =>
        Option.bind (m_recurrence_Period std r_1 r_2 r_3 r_4 r_5 start_1 m_1 r_6 r_7 r_8 r_9 r_10 r_11 r_12 r_13 r_14) fun (n90, n91) =>
        Option.bind (
          bif (!(n87 == 0)) then
            (some true)
          else
            bif (!(n89 == 0)) then
              (some true)
            else
              bif (!(n91 == 0)) then
                (some true)
              else
                bif (!(n88 == n90)) then
                  (some true)
                else
                  (some (!b50)) : Option ((Bool))) fun x144 =>
        bif x144 then
          (some true)
        else
          Option.bind (
            bif (!b49) then
              bif (!c4) then
                (some true)
              else
                (some (decide (m_1 ≤ l_1)))
            else
              bif (decide (l_1 ≤ m_1)) then
                bif (!c4) then
                  (some true)
                else
                  (some (decide (m_1 ≤ l_1)))
              else
                (some false) : Option ((Bool))) fun x149 =>
          (some x149)) : Option (Bool)) := rfl
end Go.Proofs.Ytmnhfaaaaejpaaa.R
namespace Go.Proofs.Ytmnhfaaaaejpaaa.R
open Go.RowKit Go.Proofs.Ytmnhfaaaaejpaaa

theorem p_contains (v : Int) {l : List Int} (hl : l.length ≤ 1000000000) : m_slices_Contains std v l = some (decide (v ∈ l)) := by
  rw [m_slices_Contains_eq, m_slices_Index_eq]
  have := loop_is (B := m_slices_Index_L1 std l v) (fun s => ∃ i : Nat, s = (i : Int) ∧ i ≤ l.length ∧ ∀ j, j < i → l.getD j 0 ≠ v) (fun s => ((l.length : Int) - s).toNat)
    (fun e => match e with | .inl x => 0 ≤ x ∧ v ∈ l | .inr _ => v ∉ l) (y := 0) ⟨0, rfl, Nat.zero_le _, fun j hj => absurd hj (Nat.not_lt_zero _)⟩ (by show ((l.length : Int) - 0).toNat < _; omega) (fun s hs => by
    obtain ⟨i, rfl, hi, hn⟩ := hs
    rw [m_slices_Index_L1_eq]
    by_cases c : i < l.length
    · cases hv : (v == l.getD i 0) with
      | true => exact ⟨.inr (.inl (i : Int)), bT (dT (by omega)) (gX (by omega) (gK (by omega) (bT (by rw [Int.toNat_natCast]; exact hv) rfl))), by omega, by
          have := beq_iff_eq.1 hv
          rw [this, List.getD_eq_getElem?_getD, List.getElem?_eq_getElem c]
          exact List.getElem_mem c⟩
      | false => exact ⟨.inl ((i : Int) + 1), bT (dT (by omega)) (gX (by omega) (gK (by omega) (bF (by rw [Int.toNat_natCast]; exact hv) (gI (by omega) rfl)))), ⟨i + 1, rfl, c, fun j hj => by
          rcases Nat.lt_succ_iff_lt_or_eq.1 hj with h | h
          · exact hn j h
          · subst h; intro e; rw [e] at hv; simp at hv⟩, by show ((l.length : Int) - ((i : Int) + 1)).toNat < ((l.length : Int) - (i : Int)).toNat; omega⟩
    · refine ⟨.inr (.inr ()), bF (dF (by omega)) rfl, fun hm => ?_⟩
      obtain ⟨j, hj, e⟩ := List.getElem_of_mem hm
      refine hn j (by omega) ?_
      rw [List.getD_eq_getElem?_getD, List.getElem?_eq_getElem hj]
      exact e)
  obtain ⟨e, he, hq⟩ := this
  rw [he, Option.bind_some]
  cases e with
  | inl x => exact bB rfl (congrArg some (by rw [dT hq.2]; exact dT hq.1))
  | inr x => exact bB rfl (congrArg some (by rw [dF hq]; rfl))
theorem counted1 {n o : Int} (h0 : 0 ≤ n) (h1 : n ≤ o) (h2 : o ≤ 2000000000000) : m_recurrence_counted std n o [1] = some (n == 1) := by
  rw [m_recurrence_counted_eq, p_contains n (by simp)]
  have hc := p_contains (n - o - 1) (l := [1]) (by simp)
  rw [dF (by simp; omega)] at hc
  cases h : (n == 1) with
  | true => exact bB (bF rfl (bB rfl (bT (dT (by simp at h; simp [h])) rfl))) rfl
  | false => exact bB (bF rfl (bB rfl (bF (dF (by simp at h; simp [h])) (gI (by omega) (gI (by omega) (bB hc rfl)))))) rfl
theorem counted2 {n o : Int} (h0 : 0 ≤ n) (h1 : n ≤ o) (h2 : o ≤ 2000000000000) : m_recurrence_counted std n o [-1] = some (n == o) := by
  rw [m_recurrence_counted_eq, p_contains n (by simp)]
  have hc := p_contains (n - o - 1) (l := [-1]) (by simp)
  cases h : (n == o) with
  | true => rw [dT (by simp at h; simp; omega)] at hc; exact bB (bF rfl (bB rfl (bF (dF (by simp; omega)) (gI (by omega) (gI (by omega) (bB hc rfl)))))) rfl
  | false => rw [dF (by simp at h; simp; omega)] at hc; exact bB (bF rfl (bB rfl (bF (dF (by simp; omega)) (gI (by omega) (gI (by omega) (bB hc rfl)))))) rfl
theorem counted3 {n o : Int} (h0 : 0 ≤ n) (h1 : n ≤ o) (h2 : o ≤ 2000000000000) : m_recurrence_counted std n o [1, -1] = some ((n == 1) || (n == o)) := by
  rw [m_recurrence_counted_eq, p_contains n (by simp)]
  have hc := p_contains (n - o - 1) (l := [1, -1]) (by simp)
  cases h : (n == 1) with
  | true => exact bB (bF rfl (bB rfl (bT (dT (by simp at h; simp [h])) rfl))) rfl
  | false =>
    have hn : n ≠ 1 := by simpa using h
    cases g : (n == o) with
    | true => rw [dT (by simp at g; simp; omega)] at hc; exact bB (bF rfl (bB rfl (bF (dF (by simp; omega)) (gI (by omega) (gI (by omega) (bB hc rfl)))))) rfl
    | false => rw [dF (by simp at g; simp; omega)] at hc; exact bB (bF rfl (bB rfl (bF (dF (by simp; omega)) (gI (by omega) (gI (by omega) (bB hc rfl)))))) rfl

/-! the days of a period hold each time of the period -/
def Cov (r : Rec) (l : Int) (p : Int × Int) : Prop := ∀ m n, NumIs r l n → NumIs r m n → p.1 ≤ m / 86400 ∧ m / 86400 < p.2
theorem cnt_len {y m : Int} (y1 : 1 ≤ y) (y2 : y ≤ 9999) (m1 : 1 ≤ m) (m2 : m ≤ 12) : (m < 12 → cnt y (m + 1) 1 = cnt y m 1 + cLen y m) ∧ (m = 12 → nyr (y + 1) = cnt y m 1 + cLen y m) := by
  have hY : cYear y = true := by unfold cYear; rw [dT y1, dT y2]; rfl
  have hlen : cLen y m = if m = 2 ∧ cLeap y = true then 29 else cTab m := by
    unfold cLen
    rw [if_neg (by rw [hY]; simp; omega)]
  have hleap : cLeap y = true ↔ y % 4 = 0 ∧ (y % 100 ≠ 0 ∨ y % 400 = 0) := by
    unfold cLeap
    rw [hY]
    by_cases a : y % 4 = 0 <;> by_cases b : y % 100 = 0 <;> by_cases c : y % 400 = 0 <;> simp [a, b, c]
  rw [hlen]
  have hm : m = 1 ∨ m = 2 ∨ m = 3 ∨ m = 4 ∨ m = 5 ∨ m = 6 ∨ m = 7 ∨ m = 8 ∨ m = 9 ∨ m = 10 ∨ m = 11 ∨ m = 12 := by omega
  refine ⟨fun h => ?_, fun h => ?_⟩
  · rcases hm with rfl | rfl | rfl | rfl | rfl | rfl | rfl | rfl | rfl | rfl | rfl | rfl
    case inr.inl =>
      by_cases g : cLeap y = true
      · rw [if_pos ⟨rfl, g⟩]; have := hleap.1 g; simp [cnt, cntA]; omega
      · rw [if_neg (fun x => g x.2)]; have := (not_congr hleap).1 g; simp [cnt, cntA, cTab]; omega
    all_goals first | omega | (rw [if_neg (by omega)]; simp [cnt, cntA, cTab] <;> omega)
  · subst h
    rw [if_neg (by omega)]
    simp [cnt, cntA, cTab, nyr]
    omega
section
variable {r : Rec} (hv : Vld r)
include hv
theorem q_days {l : Int} (h1 : -62135596800 ≤ l) (h2 : l < 253402300800) : ∃ p, m_recurrence_days std r.f r.N r.c r.u r.w l r.mo r.md r.yd r.wk r.dy r.h r.m r.s r.ps = some p ∧ Bd2 p ∧ Cov r l p := by
  obtain ⟨w1, w2⟩ := hv.w1
  obtain ⟨f1, f2⟩ := hv.f1
  obtain ⟨D, hD⟩ : ∃ D, D = l / 86400 := ⟨_, rfl⟩
  have d1 : -719162 ≤ D := by omega
  have d2 : D < 2932897 := by omega
  obtain ⟨y, m, d, hdt, h⟩ := p_civil_Date d1 d2
  have e := p_recurrence_dateOf d1 d2 hdt h
  have hyr := h.yr d1 d2
  have hml := h.mlo d1 d2
  have y1 := h.y1
  have y2 := h.y2
  have m1 := h.m1
  have m2 := h.m2
  have mu := h.mu
  have d0 := h.d0
  have hcl := t_cLen y m
  have hlen := cnt_len y1 y2 m1 m2
  have b1 := nyr_small (y := y) (by omega) (by omega)
  have b2 := nyr_small (y := y + 1) (by omega) (by omega)
  have b3 := cnt_bd (y := y) (m := m) (d := 1) y1 (by omega) m1 m2 (by omega) (by omega)
  rw [m_recurrence_days_eq]
  have eF1 : m_integer_Floor std l 86400 = some D := by rw [hD]; exact p_integer_Floor _ _ (by omega) (by omega) (by omega) (by omega)
  rw [eF1, Option.bind_some, e, Option.bind_some]
  simp only []
  refine uI (by omega) (uB (Q := fun x => x = (decide (r.f = 1) && decide (0 < ((r.wk.length : Nat) : Int)))) ?_ fun b hb => uB (Q := fun p => Bd2 p ∧ Cov r l p) ?_ fun a ha => ⟨_, rfl, ha⟩)
  · exact uC (fun h => ⟨_, rfl, by rw [dT (beq_iff_eq.1 h)]; rfl⟩) fun h => ⟨_, rfl, by rw [dF (by simpa using h)]; rfl⟩
  refine uC (fun hb1 => ?_) fun hb1 => ?_
  · rw [hb1] at hb
    have hb := hb.symm
    simp only [Bool.and_eq_true, decide_eq_true_eq] at hb
    obtain ⟨Y, eY, hY⟩ := p_weekYear d1 d2 w1 w2
    have wb := wkS_bd D r.w
    have yb := t_isyr hY (by omega) (by omega)
    have n1 := nyr_small (y := Y) (by omega) (by omega)
    have n2 := nyr_small (y := Y + 1) (by omega) (by omega)
    have wb1 := wkS_bd (nyr Y + 3) r.w
    have wb2 := wkS_bd (nyr (Y + 1) + 3) r.w
    rw [eY, Option.bind_some]
    refine uI (by omega) ?_
    rw [t_firstWeek (by omega) (by omega) w1 w2, Option.bind_some, t_firstWeek (by omega) (by omega) w1 w2, Option.bind_some]
    refine ⟨_, rfl, by unfold Bd2; simp only []; omega, fun x n g1 g2 => ?_⟩
    obtain ⟨ha, hc⟩ := hb
    rcases g1 with ⟨f, _⟩ | ⟨f, _⟩ | ⟨f, _⟩ | ⟨_, _, i1⟩ | ⟨_, f, _⟩ | ⟨f, _⟩ <;> try (exfalso; omega)
    rcases g2 with ⟨f, _⟩ | ⟨f, _⟩ | ⟨f, _⟩ | ⟨_, _, i2⟩ | ⟨_, f, _⟩ | ⟨f, _⟩ <;> try (exfalso; omega)
    rw [← hD] at i1
    obtain rfl := i1.uniq hY
    obtain ⟨j1, j2⟩ := i2
    generalize x / 86400 = D' at *
    simp only []
    clear hlen b1 b2 b3 mu d0 hml hyr h e eF1
    generalize nyr n = A at *
    generalize nyr (n + 1) = B at *
    unfold wkS wkd at *
    constructor <;> omega
  · rw [hb1] at hb
    have hb := hb.symm
    refine uB (Q := fun p => Bd2 p ∧ Cov r l p) (uC (fun c1 => uI (by omega) (uI (by omega) (uI (by omega) ⟨_, rfl, by unfold Bd2; simp only []; omega, fun x n g1 g2 => ?_⟩))) fun c1 => uB (Q := fun p => Bd2 p ∧ Cov r l p) (uC (fun c2 => uI (by omega) (uI (by omega) (uI (by omega) ⟨_, rfl, by unfold Bd2; simp only []; omega, fun x n g1 g2 => ?_⟩))) fun c2 => uB (Q := fun p => Bd2 p ∧ Cov r l p) (uC (fun c3 => ?_) fun c3 => ⟨_, rfl, by unfold Bd2; simp only []; omega, fun x n g1 g2 => ?_⟩) fun a ha => ⟨_, rfl, ha⟩) fun a ha => ⟨_, rfl, ha⟩) fun a ha => ⟨_, rfl, ha⟩
    · have c1 := beq_iff_eq.1 c1
      rw [dT c1] at hb
      simp only [Bool.true_and, decide_eq_false_iff_not] at hb
      rcases g1 with ⟨f, _⟩ | ⟨f, _⟩ | ⟨f, _⟩ | ⟨_, f, _⟩ | ⟨_, _, i1⟩ | ⟨f, _⟩ <;> try (exfalso; omega)
      rcases g2 with ⟨f, _⟩ | ⟨f, _⟩ | ⟨f, _⟩ | ⟨_, f, _⟩ | ⟨_, _, i2⟩ | ⟨f, _⟩ <;> try (exfalso; omega)
      rw [← hD] at i1
      obtain rfl := i1.uniq hyr
      obtain ⟨j1, j2⟩ := i2
      simp only []
      constructor <;> omega
    · have c2 := beq_iff_eq.1 c2
      rcases g1 with ⟨f, _⟩ | ⟨f, _⟩ | ⟨f, _⟩ | ⟨f, _, _⟩ | ⟨f, _, _⟩ | ⟨_, ya, ma, ea, a1, a2, a3, a4, a5⟩ <;> try (exfalso; omega)
      rcases g2 with ⟨f, _⟩ | ⟨f, _⟩ | ⟨f, _⟩ | ⟨f, _, _⟩ | ⟨f, _, _⟩ | ⟨_, yb, mb, eb, k1, k2, k3, k4, k5⟩ <;> try (exfalso; omega)
      rw [← hD] at a3 a4 a5
      obtain rfl := a3.uniq hyr
      obtain rfl : yb = ya := by omega
      obtain rfl : mb = ma := by omega
      have hmm : mb = m := by
        rcases Int.lt_trichotomy mb m with g | g | g
        · have g5 := a5 (by omega)
          rcases Int.lt_or_le (mb + 1) m with g6 | g6
          · have := cnt_up (y := yb) (m := mb + 1) (m' := m) (by omega) g6 m2; omega
          · have : mb + 1 = m := by omega
            rw [this] at g5; omega
        · exact g
        · have g5 := mu (by omega)
          rcases Int.lt_or_le (m + 1) mb with g6 | g6
          · have := cnt_up (y := yb) (m := m + 1) (m' := mb) (by omega) g6 k2; omega
          · have : m + 1 = mb := by omega
            rw [this] at g5; omega
      subst hmm
      simp only []
      have h3 := k3.2
      rcases Int.lt_or_le mb 12 with g | g
      · have := hlen.1 g
        have := k5 g
        constructor <;> omega
      · have := hlen.2 (by omega)
        constructor <;> omega
    · have c3 := beq_iff_eq.1 c3
      have wb := wkS_bd D r.w
      rw [p_recurrence_week (by omega) (by omega) w1 w2, Option.bind_some]
      refine uI (by omega) ⟨_, rfl, by unfold Bd2; simp only []; omega, fun x n g1 g2 => ?_⟩
      rcases g1 with ⟨_, i1⟩ | ⟨f, _⟩ | ⟨f, _⟩ | ⟨f, _, _⟩ | ⟨f, _, _⟩ | ⟨f, _⟩ <;> try (exfalso; omega)
      rcases g2 with ⟨_, i2⟩ | ⟨f, _⟩ | ⟨f, _⟩ | ⟨f, _, _⟩ | ⟨f, _, _⟩ | ⟨f, _⟩ <;> try (exfalso; omega)
      rw [← hD] at i1
      simp only []
      generalize x / 86400 = D' at *
      clear hlen b1 b2 b3 mu d0 hml hyr h e eF1
      unfold wkS wkd at *
      constructor <;> omega
    · have c1' : r.f ≠ 1 := by simpa using c1
      have c2' : r.f ≠ 2 := by simpa using c2
      have c3' : r.f ≠ 3 := by simpa using c3
      simp only []
      rcases g1 with ⟨f, _⟩ | ⟨_, i1⟩ | ⟨f0, i1⟩ | ⟨f, _, _⟩ | ⟨f, _, _⟩ | ⟨f, _⟩ <;> try (exfalso; omega)
      · rcases g2 with ⟨f, _⟩ | ⟨_, i2⟩ | ⟨f, i2⟩ | ⟨f, _, _⟩ | ⟨f, _, _⟩ | ⟨f, _⟩ <;> try (exfalso; omega)
        constructor <;> omega
      · rcases g2 with ⟨f, _⟩ | ⟨f, i2⟩ | ⟨_, i2⟩ | ⟨f, _, _⟩ | ⟨f, _, _⟩ | ⟨f, _⟩ <;> try (exfalso; omega)
        constructor <;> omega
end
end Go.Proofs.Ytmnhfaaaaejpaaa.R
namespace Go.Proofs.Ytmnhfaaaaejpaaa.R
open Go.RowKit Go.Proofs.Ytmnhfaaaaejpaaa

section
variable {α : Type}
theorem countP_two {p : α → Bool} : ∀ {l : List α} {a b : α}, a ∈ l → b ∈ l → a ≠ b → p a = true → p b = true → 2 ≤ l.countP p := by
  intro l
  induction l with
  | nil => intro a b h; cases h
  | cons x l ih =>
    intro a b ha hb hab pa pb
    rw [List.countP_cons]
    rcases List.mem_cons.1 ha with e | ha'
    · rcases List.mem_cons.1 hb with f | hb'
      · exact absurd (e.trans f.symm) hab
      · have := List.countP_pos_iff.2 ⟨b, hb', pb⟩
        rw [← e, if_pos pa]; omega
    · rcases List.mem_cons.1 hb with f | hb'
      · have := List.countP_pos_iff.2 ⟨a, ha', pa⟩
        rw [← f, if_pos pb]; omega
      · have := ih ha' hb' hab pa pb
        omega
theorem countP_same {p q : α → Bool} (hpq : ∀ x, p x = true → q x = true) : ∀ {l : List α}, l.countP p = l.countP q → ∀ x ∈ l, q x = true → p x = true := by
  intro l
  induction l with
  | nil => intro _ x hx; cases hx
  | cons y l ih =>
    intro h x hx qx
    have hle : l.countP p ≤ l.countP q := List.countP_mono_left fun x _ => hpq x
    rw [List.countP_cons, List.countP_cons] at h
    cases py : p y with
    | true =>
      rw [if_pos py, if_pos (hpq y py)] at h
      rcases List.mem_cons.1 hx with e | hx'
      · rw [e]; exact py
      · exact ih (by omega) x hx' qx
    | false =>
      cases qy : q y with
      | true => rw [py, qy] at h; simp at h; omega
      | false =>
        rw [py, qy] at h
        rcases List.mem_cons.1 hx with e | hx'
        · rw [e, qy] at qx; cases qx
        · exact ih (by simpa using h) x hx' qx
end
/-- the times of a range's days -/
def flat {lo hi : Int} (P : Dy lo hi → Prop) [DecidablePred P] (S : List Int) (L : List (Dy lo hi)) : List (Int × Int) := L.flatMap fun x => if P x then S.map fun s => (x.1, s) else []
theorem sum_flat {lo hi : Int} (P : Dy lo hi → Prop) [DecidablePred P] (c : Int → Int → Bool) (S : List Int) : ∀ L : List (Dy lo hi), sumL (fun x => if P x then S.countP (c x.1) else 0) L = (flat P S L).countP fun z => c z.1 z.2 := by
  intro L
  induction L with
  | nil => rfl
  | cons x L ih =>
    unfold sumL flat at *
    rw [List.map_cons, List.sum_cons, ih, List.flatMap_cons, List.countP_append]
    by_cases h : P x
    · rw [if_pos h, if_pos h, List.countP_map]; rfl
    · rw [if_neg h, if_neg h]; rfl
theorem mem_flat {lo hi : Int} {P : Dy lo hi → Prop} [DecidablePred P] {S : List Int} {L : List (Dy lo hi)} {x : Dy lo hi} {s : Int} (h1 : x ∈ L) (h2 : P x) (h3 : s ∈ S) : (x.1, s) ∈ flat P S L := by
  refine List.mem_flatMap.2 ⟨x, h1, ?_⟩
  rw [if_pos h2]
  exact List.mem_map.2 ⟨s, h3, rfl⟩
/-- what the place of a local time says of the candidates of its period -/
structure Plc (r : Rec) (l : Int) (S : List Int) (P : Int → Prop) (pn po : Int) : Prop where
  le : 0 ≤ pn ∧ pn ≤ po ∧ po ≤ 2000000000000
  first : pn = 1 → ∀ m n, -62135596800 ≤ m → m < 253402300800 → NumIs r l n → NumIs r m n → P (l / 86400) → l % 86400 ∈ S → P (m / 86400) → m % 86400 ∈ S → l ≤ m
  last : pn = po → ∀ m n, -62135596800 ≤ m → m < 253402300800 → NumIs r l n → NumIs r m n → P (l / 86400) → l % 86400 ∈ S → P (m / 86400) → m % 86400 ∈ S → m ≤ l
theorem tOk_num {r : Rec} {l m n : Int} (h1 : NumIs r l n) (h2 : NumIs r m n) : tOk r.f l (m / 86400) (m % 86400) = true := by
  unfold tOk
  have e : m / 86400 * 86400 + m % 86400 = m := by omega
  rw [e]
  by_cases hf : r.f = 5
  · rcases h1 with ⟨f, _⟩ | ⟨f, _⟩ | ⟨_, i1⟩ | ⟨f, _, _⟩ | ⟨f, _, _⟩ | ⟨f, _⟩ <;> try (exfalso; omega)
    rcases h2 with ⟨f, _⟩ | ⟨f, _⟩ | ⟨_, i2⟩ | ⟨f, _, _⟩ | ⟨f, _, _⟩ | ⟨f, _⟩ <;> try (exfalso; omega)
    rw [show m / 3600 = l / 3600 by omega]
    simp
  · simp [hf]
section
variable {r : Rec} (hv : Vld r)
include hv
theorem q_place {start l : Int} (s1 : -62135596800 ≤ start) (s2 : start < 253402300800) (h1 : -62135596800 ≤ l) (h2 : l < 253402300800)
    {S : List Int} (eS : m_recurrence_times std r.f r.N r.c r.u r.w start r.mo r.md r.yd r.wk r.dy r.h r.m r.s r.ps = some S) (lS : S.length ≤ 1440) (hS : TOk S)
    {y m d p q u v : Int} (hd : m_recurrence_dateOf std (start / 86400) = some (y, m, d, start / 86400, p, q, u, v)) :
    ∃ n o, m_recurrence_place std r.f r.N r.c r.u r.w start l r.mo r.md r.yd r.wk r.dy r.h r.m r.s r.ps = some (n, o) ∧
      Plc r l S (fun x => m_recurrence_passes std r.f r.N r.c r.u r.w y m d (start / 86400) p q u v x r.mo r.md r.yd r.wk r.dy r.h r.m r.s r.ps = some true) n o := by
  obtain ⟨⟨a, b⟩, eD, bD, cov⟩ := q_days hv h1 h2
  have eF1 : m_integer_Floor std start 86400 = some (start / 86400) := p_integer_Floor _ _ (by omega) (by omega) (by omega) (by omega)
  unfold m_recurrence_place
  rw [eS, Option.bind_some, eF1, Option.bind_some, hd, Option.bind_some]
  simp only []
  rw [eD, Option.bind_some]
  simp only []
  unfold Bd2 at bD
  simp only [] at bD
  have g1 : decide (-9000000000000000 ≤ a ∧ a ≤ 9000000000000000 ∧ -9000000000000000 ≤ b ∧ b ≤ 9000000000000000) = true := dT (by omega)
  have g2 : decide (S.length ≤ 1000000 ∧ -9000000000000000 ≤ l ∧ l ≤ 9000000000000000) = true := dT (by omega)
  have g3 : (S.all fun s => decide (0 ≤ s ∧ s < 86400)) = true := List.all_eq_true.2 fun s hs => dT (hS s hs)
  have hlo : -719162 ≤ loD a := by unfold loD; split <;> omega
  have hhi : hiD b ≤ 2932897 := by unfold hiD; split <;> omega
  have g4 : ∀ L : List (Dy (loD a) (hiD b)), (L.all fun x => (m_recurrence_passes std r.f r.N r.c r.u r.w y m d (start / 86400) p q u v x.1 r.mo r.md r.yd r.wk r.dy r.h r.m r.s r.ps).isSome) = true := fun L => List.all_eq_true.2 fun x _ => by
    obtain ⟨pb, hpb⟩ := t_passes hv (x := x.1) (d1 := y) (d2 := m) (d3 := d) (d4 := start / 86400) (d5 := p) (d6 := q) (d7 := u) (d8 := v) (by have := x.2; omega) (by have := x.2; omega) (by omega) (by omega)
    rw [hpb]; rfl
  rw [g1, g2, g3, g4]
  obtain ⟨P, hP⟩ : ∃ P : Int → Prop, P = fun x => m_recurrence_passes std r.f r.N r.c r.u r.w y m d (start / 86400) p q u v x r.mo r.md r.yd r.wk r.dy r.h r.m r.s r.ps = some true := ⟨_, rfl⟩
  haveI : DecidablePred P := fun x => by rw [hP]; exact inferInstance
  have hlen := dyL_len (lo := loD a) (hi := hiD b) (hiD b - loD a).toNat (Int.le_refl _)
  obtain ⟨L, hL⟩ : ∃ L, dyL (loD a) (hiD b) (hiD b - loD a).toNat = L := ⟨_, rfl⟩
  have hmem : ∀ x : Dy (loD a) (hiD b), x ∈ L := fun x => by rw [← hL]; exact mem_days x
  have n1 := sum_flat (fun x : Dy (loD a) (hiD b) => m_recurrence_passes std r.f r.N r.c r.u r.w y m d (start / 86400) p q u v x.1 r.mo r.md r.yd r.wk r.dy r.h r.m r.s r.ps = some true) (fun d s => tOk r.f l d s && decide (d * 86400 + s ≤ l)) S L
  have n2 := sum_flat (fun x : Dy (loD a) (hiD b) => m_recurrence_passes std r.f r.N r.c r.u r.w y m d (start / 86400) p q u v x.1 r.mo r.md r.yd r.wk r.dy r.h r.m r.s r.ps = some true) (fun d s => tOk r.f l d s) S L
  have bo := sumL_bd (fun x : Dy (loD a) (hiD b) => if m_recurrence_passes std r.f r.N r.c r.u r.w y m d (start / 86400) p q u v x.1 r.mo r.md r.yd r.wk r.dy r.h r.m r.s r.ps = some true then cO r.f l x.1 S else 0) 1440 (fun x => by split; exact Nat.le_trans (cO_le ..) lS; exact Nat.zero_le _) L
  rw [hL] at hlen ⊢
  rw [hlen] at bo
  refine ⟨_, _, rfl, ?_⟩
  have e1 : sumL (fun x : Dy (loD a) (hiD b) => if m_recurrence_passes std r.f r.N r.c r.u r.w y m d (start / 86400) p q u v x.1 r.mo r.md r.yd r.wk r.dy r.h r.m r.s r.ps = some true then cN r.f l x.1 S else 0) L = _ := n1
  have e2 : sumL (fun x : Dy (loD a) (hiD b) => if m_recurrence_passes std r.f r.N r.c r.u r.w y m d (start / 86400) p q u v x.1 r.mo r.md r.yd r.wk r.dy r.h r.m r.s r.ps = some true then cO r.f l x.1 S else 0) L = _ := n2
  rw [e2] at bo
  rw [e1, e2]
  have imp : ∀ z : Int × Int, (tOk r.f l z.1 z.2 && decide (z.1 * 86400 + z.2 ≤ l)) = true → tOk r.f l z.1 z.2 = true := fun z h => (Bool.and_eq_true_iff.1 h).1
  obtain ⟨Fl, hFl⟩ : ∃ Fl, flat (fun x : Dy (loD a) (hiD b) => m_recurrence_passes std r.f r.N r.c r.u r.w y m d (start / 86400) p q u v x.1 r.mo r.md r.yd r.wk r.dy r.h r.m r.s r.ps = some true) S L = Fl := ⟨_, rfl⟩
  have inF : ∀ m' n, -62135596800 ≤ m' → m' < 253402300800 → NumIs r l n → NumIs r m' n → m_recurrence_passes std r.f r.N r.c r.u r.w y m d (start / 86400) p q u v (m' / 86400) r.mo r.md r.yd r.wk r.dy r.h r.m r.s r.ps = some true → m' % 86400 ∈ S → (m' / 86400, m' % 86400) ∈ Fl := fun m' n b1 b2 i1 i2 hp hs => by
    have hc := cov m' n i1 i2
    simp only [] at hc
    have hx1 : loD a ≤ m' / 86400 := by unfold loD; split <;> omega
    have hx2 : m' / 86400 < hiD b := by unfold hiD; split <;> omega
    rw [← hFl]
    exact mem_flat (x := ⟨m' / 86400, hx1, hx2⟩) (hmem _) hp hs
  rw [hFl] at bo ⊢
  have hle : Fl.countP (fun z => tOk r.f l z.1 z.2 && decide (z.1 * 86400 + z.2 ≤ l)) ≤ Fl.countP (fun z => tOk r.f l z.1 z.2) := List.countP_mono_left fun z _ => imp z
  refine ⟨⟨by omega, by omega, by omega⟩, fun h1' m' n b1 b2 i1 i2 pl sl pm sm => ?_, fun h1' m' n b1 b2 i1 i2 pl sl pm sm => ?_⟩
  · rcases Int.lt_or_le m' l with g | g
    · exfalso
      have := countP_two (p := fun z : Int × Int => tOk r.f l z.1 z.2 && decide (z.1 * 86400 + z.2 ≤ l)) (inF l n (by omega) (by omega) i1 i1 pl sl) (inF m' n b1 b2 i1 i2 pm sm)
        (fun e => by injection e; omega) (by rw [tOk_num i1 i1]; exact dT (by simp only []; omega)) (by rw [tOk_num i1 i2]; exact dT (by simp only []; omega))
      omega
    · exact g
  · have := countP_same imp (l := Fl) (by omega) _ (inF m' n b1 b2 i1 i2 pm sm) (tOk_num i1 i2)
    have := of_decide_eq_true (Bool.and_eq_true_iff.1 this).2
    simp only [] at this
    omega
end
theorem e_number (f N c u w l : Int) (mo md yd wk : List Int) (dy : List (Int × Int)) (h m s X Y : List Int) : m_recurrence_number std f N c u w l mo md yd wk dy h m s X = m_recurrence_number std f N c u w l mo md yd wk dy h m s Y := rfl
theorem e_times (f N c u w l : Int) (mo md yd wk : List Int) (dy : List (Int × Int)) (h m s X Y : List Int) : m_recurrence_times std f N c u w l mo md yd wk dy h m s X = m_recurrence_times std f N c u w l mo md yd wk dy h m s Y := rfl
theorem e_passes (f N c u w d1 d2 d3 d4 d5 d6 d7 d8 l : Int) (mo md yd wk : List Int) (dy : List (Int × Int)) (h m s X Y : List Int) : m_recurrence_passes std f N c u w d1 d2 d3 d4 d5 d6 d7 d8 l mo md yd wk dy h m s X = m_recurrence_passes std f N c u w d1 d2 d3 d4 d5 d6 d7 d8 l mo md yd wk dy h m s Y := rfl
theorem e_days (f N c u w l : Int) (mo md yd wk : List Int) (dy : List (Int × Int)) (h m s X Y : List Int) : m_recurrence_days std f N c u w l mo md yd wk dy h m s X = m_recurrence_days std f N c u w l mo md yd wk dy h m s Y := rfl
theorem e_place (f N c u w start l : Int) (mo md yd wk : List Int) (dy : List (Int × Int)) (h m s X Y : List Int) : m_recurrence_place std f N c u w start l mo md yd wk dy h m s X = m_recurrence_place std f N c u w start l mo md yd wk dy h m s Y := rfl
theorem vldX {r : Rec} (h : vldB r = true) {X : List Int} (hX : lstB 1 366 true X = true) : vldB { r with ps := X } = true := by
  unfold vldB at h ⊢
  simp only [Bool.and_eq_true] at h ⊢
  obtain ⟨a1, a2, a3, a4, a5, a6, a7, a8, a9, b1, b2, b3, b4, b5, b6, b7⟩ := h
  exact ⟨a1, a2, a3, a4, a5, a6, a7, a8, a9, b1, b2, b3, hX, b5, b6, b7⟩
/-- what a rule with any positions answers -/
theorem q_Matches {r : Rec} (hb : vldB r = true) {start l n n0 pn po : Int} {S : List Int} {c pb cb : Bool} {y m d p q u v : Int} (hs : locB start = true) (hl : locB l = true)
    (en : m_recurrence_number std r.f r.N r.c r.u r.w l r.mo r.md r.yd r.wk r.dy r.h r.m r.s r.ps = some n) (e0 : m_recurrence_number std r.f r.N r.c r.u r.w start r.mo r.md r.yd r.wk r.dy r.h r.m r.s r.ps = some n0)
    (bn : -1000000000000 ≤ n ∧ n ≤ 1000000000000) (bn0 : -1000000000000 ≤ n0 ∧ n0 ≤ 1000000000000)
    (eS : m_recurrence_times std r.f r.N r.c r.u r.w start r.mo r.md r.yd r.wk r.dy r.h r.m r.s r.ps = some S) (eC : m_slices_Contains std (l % 86400) S = some c) (eD : m_recurrence_dateOf std (start / 86400) = some (y, m, d, start / 86400, p, q, u, v))
    (eP : m_recurrence_passes std r.f r.N r.c r.u r.w y m d (start / 86400) p q u v (l / 86400) r.mo r.md r.yd r.wk r.dy r.h r.m r.s r.ps = some pb)
    (epl : m_recurrence_place std r.f r.N r.c r.u r.w start l r.mo r.md r.yd r.wk r.dy r.h r.m r.s r.ps = some (pn, po)) {X : List Int} (hX : lstB 1 366 true X = true) (ecb : m_recurrence_counted std pn po X = some cb) :
    m_recurrence_Matches std r.f r.N r.c r.u r.w start l r.mo r.md r.yd r.wk r.dy r.h r.m r.s X = some (allB start l r.u r.N n n0 c pb && (if X = [] then true else cb), 0) :=
  p_Matches (r := { r with ps := X }) (vldX hb hX) hs hl ((e_number ..).trans en) ((e_number ..).trans e0) bn bn0 ((e_times ..).trans eS) eC eD ((e_passes ..).trans eP) ((e_place ..).trans epl) ecb
theorem q_Matches_bad {r : Rec} {start l : Int} (h : (vldB r && locB start) = false) (hb : vldB r = true) {X : List Int} (hX : lstB 1 366 true X = true) : m_recurrence_Matches std r.f r.N r.c r.u r.w start l r.mo r.md r.yd r.wk r.dy r.h r.m r.s X = some (false, 1) :=
  p_Matches_bad (r := { r with ps := X }) (by rw [vldX hb hX]; rw [hb] at h; exact h)
theorem q_Matches_far {r : Rec} {start l : Int} (hb : vldB r = true) (hs : locB start = true) (hl : locB l = false) {X : List Int} (hX : lstB 1 366 true X = true) : m_recurrence_Matches std r.f r.N r.c r.u r.w start l r.mo r.md r.yd r.wk r.dy r.h r.m r.s X = some (false, 2) :=
  p_Matches_far (r := { r with ps := X }) (by rw [vldX hb hX, hs]; rfl) hl
theorem allB_true {start l u N n n0 : Int} {c pb : Bool} (h : allB start l u N n n0 c pb = true) : c = true ∧ pb = true := by
  unfold allB at h
  simp only [Bool.and_eq_true] at h
  exact ⟨h.2.2.2.1, h.2.2.2.2⟩
theorem lX0 : lstB 1 366 true [] = true := rfl
theorem lX1 : lstB 1 366 true [1] = true := by decide
theorem lX2 : lstB 1 366 true [-1] = true := by decide
theorem lX3 : lstB 1 366 true [1, -1] = true := by decide
theorem pl_RecurrencePositions (r : Rec) (start l m : Int) : m_law29_RecurrencePositions std r.f r.N r.c r.u r.w start l m r.mo r.md r.yd r.wk r.dy r.h r.m r.s r.ps = some true := by
  rw [m_law29_RecurrencePositions_eq]
  obtain ⟨lg, hlg⟩ := p_long r
  cases lg with
  | true => exact bB (v := true) (bB q_awake (bF rfl (bB hlg (bT rfl rfl)))) (bT rfl (bB q_awake rfl))
  | false =>
  have hV := p_Valid r
  cases hb : vldB r with
  | false => rw [hb] at hV; exact bB (v := true) (bB q_awake (bF rfl (bB hlg (bF rfl (bB hV rfl))))) (bT rfl (bB q_awake rfl))
  | true =>
  rw [hb] at hV
  refine bB (v := false) (bB q_awake (bF rfl (bB hlg (bF rfl (bB hV rfl))))) (bF rfl ?_)
  cases hs : locB start with
  | false =>
    have hg : (vldB r && locB start) = false := by rw [hs, Bool.and_false]
    exact bB (q_Matches_bad hg hb lX0) (bB (q_Matches_bad hg hb lX1) (bB (q_Matches_bad hg hb lX2) (bB (q_Matches_bad hg hb lX3) (bB (v := true) rfl (bT rfl rfl)))))
  | true =>
  cases hl : locB l with
  | false => exact bB (q_Matches_far hb hs hl lX0) (bB (q_Matches_far hb hs hl lX1) (bB (q_Matches_far hb hs hl lX2) (bB (q_Matches_far hb hs hl lX3) (bB (v := true) rfl (bT rfl rfl)))))
  | true =>
  have hg : (vldB r && locB start) = true := by rw [hb, hs]; rfl
  have hv := vld hb
  have bs := locB_iff.1 hs
  have bl := locB_iff.1 hl
  obtain ⟨n, en, _, hn, bn⟩ := p_number hb hl
  obtain ⟨n0, e0, _, _, bn0⟩ := p_number hb hs
  obtain ⟨S, eS, lS, tS⟩ := t_times hv bs.1 bs.2
  have eC := p_contains (l % 86400) (l := S) (by omega)
  obtain ⟨y, mm, d, p, q, u, v, hd⟩ := t_dateOf (day := start / 86400) (by omega) (by omega)
  obtain ⟨pb, eP⟩ := t_passes hv (x := l / 86400) (d1 := y) (d2 := mm) (d3 := d) (d4 := start / 86400) (d5 := p) (d6 := q) (d7 := u) (d8 := v) (by omega) (by omega) (by omega) (by omega)
  obtain ⟨pn, po, epl, hp⟩ := q_place hv bs.1 bs.2 bl.1 bl.2 eS lS tS hd.e
  obtain ⟨p0, p1, p2⟩ := hp.le
  have M0 := q_Matches hb hs hl en e0 bn bn0 eS eC hd.e eP epl lX0 (p_counted_nil pn po)
  have M1 := q_Matches hb hs hl en e0 bn bn0 eS eC hd.e eP epl lX1 (counted1 p0 p1 p2)
  have M2 := q_Matches hb hs hl en e0 bn bn0 eS eC hd.e eP epl lX2 (counted2 p0 p1 p2)
  have M3 := q_Matches hb hs hl en e0 bn bn0 eS eC hd.e eP epl lX3 (counted3 p0 p1 p2)
  obtain ⟨A, hA⟩ : ∃ A, allB start l r.u r.N n n0 (decide (l % 86400 ∈ S)) pb = A := ⟨_, rfl⟩
  rw [hA] at M0 M1 M2 M3
  rw [if_pos rfl] at M0
  rw [if_neg (by simp)] at M1 M2 M3
  obtain ⟨b1, hb1⟩ : ∃ b, (pn == 1) = b := ⟨_, rfl⟩
  obtain ⟨b2, hb2⟩ : ∃ b, (pn == po) = b := ⟨_, rfl⟩
  rw [hb1] at M1 M3
  rw [hb2] at M2 M3
  refine bB M0 (bB M1 (bB M2 (bB M3 (bB (v := false) (bF rfl (bF rfl (bF rfl rfl))) (bF rfl (bB (v := (A && b1, A && b2, false)) (by cases A <;> cases b1 <;> cases b2 <;> rfl) (bF rfl ?_)))))))
  have PL := p_Period hg hl en e0 bn bn0
  cases hm : locB m with
  | false => exact bB (q_Matches_far hb hs hm lX0) (bB PL (bB (p_Period_far hg hm) (bB (v := true) (bT rfl rfl) (bT rfl rfl))))
  | true =>
  have bm := locB_iff.1 hm
  obtain ⟨nm, enm, _, hnm, bnm⟩ := p_number hb hm
  have eCm := p_contains (m % 86400) (l := S) (by omega)
  obtain ⟨pbm, ePm⟩ := t_passes hv (x := m / 86400) (d1 := y) (d2 := mm) (d3 := d) (d4 := start / 86400) (d5 := p) (d6 := q) (d7 := u) (d8 := v) (by omega) (by omega) (by omega) (by omega)
  obtain ⟨pnm, pom, eplm, hpm⟩ := q_place hv bs.1 bs.2 bm.1 bm.2 eS lS tS hd.e
  have Mm := q_Matches hb hs hm enm e0 bnm bn0 eS eCm hd.e ePm eplm lX0 (p_counted_nil pnm pom)
  rw [if_pos rfl] at Mm
  obtain ⟨B, hB⟩ : ∃ B, allB start m r.u r.N nm n0 (decide (m % 86400 ∈ S)) pbm = B := ⟨_, rfl⟩
  rw [hB] at Mm
  refine bB Mm (bB PL (bB (p_Period hg hm enm e0 bnm bn0) ?_))
  by_cases hne : n - n0 = nm - n0
  · have he : (n - n0 == nm - n0) = true := beq_iff_eq.2 hne
    cases B with
    | false => exact bB (v := true) (bF rfl (bF rfl (bF rfl (bF (by rw [he]; rfl) rfl)))) (bT rfl rfl)
    | true =>
    refine bB (v := false) (bF rfl (bF rfl (bF rfl (bF (by rw [he]; rfl) rfl)))) (bF rfl ?_)
    obtain ⟨cm, pm⟩ := allB_true hB
    rw [pm] at ePm
    have cm := of_decide_eq_true cm
    have enn : nm = n := by omega
    rw [enn] at hnm
    cases A with
    | false => exact bB (v := true) rfl rfl
    | true =>
    obtain ⟨cl, pl⟩ := allB_true hA
    rw [pl] at eP
    have cl := of_decide_eq_true cl
    have f1 : b1 = true → l ≤ m := fun h => hp.first (by rw [h] at hb1; exact beq_iff_eq.1 hb1) m n bm.1 bm.2 hn hnm eP cl ePm cm
    have f2 : b2 = true → m ≤ l := fun h => hp.last (by rw [h] at hb2; exact beq_iff_eq.1 hb2) m n bm.1 bm.2 hn hnm eP cl ePm cm
    cases b1 with
    | false =>
      cases b2 with
      | false => exact bB (v := true) rfl rfl
      | true => exact bB (v := true) (bT rfl (bF rfl (congrArg some (dT (f2 rfl))))) rfl
    | true =>
      cases b2 with
      | false => exact bB (v := true) (bF rfl (bT (dT (f1 rfl)) rfl)) rfl
      | true => exact bB (v := true) (bF rfl (bT (dT (f1 rfl)) (congrArg some (dT (f2 rfl))))) rfl
  · have he : (n - n0 == nm - n0) = false := beq_eq_false_iff_ne.2 hne
    exact bB (v := true) (bF rfl (bF rfl (bF rfl (bT (by rw [he]; rfl) rfl)))) (bT rfl rfl)
end Go.Proofs.Ytmnhfaaaaejpaaa.R
