/-
  Equations of models (printed by lift.py).
  Equations of models (printed by lift.py).
  Rules: the filters, the times and the place of a local time always have an answer where the rule is valid.
  RecurrenceCandidates: the plain law.
-/
import Derived.Test.YtmnhfaaaaejpaaaPcM
import Derived.Test.YtmnhfaaaaejpaaaPlM
import Derived.Test.YtmnhfaaaaejpaaaN4
namespace Go.Proofs.Ytmnhfaaaaejpaaa.R
open Go.RowKit Go.Proofs.Ytmnhfaaaaejpaaa
set_option maxRecDepth 100000

theorem m_recurrence_Matches_eq (r_1 : Int) (r_2 : Int) (r_3 : Int) (r_4 : Int) (r_5 : Int) (start_1 : Int) (l_1 : Int) (r_6 : List Int) (r_7 : List Int) (r_8 : List Int) (r_9 : List Int) (r_10 : List (Int × Int)) (r_11 : List Int) (r_12 : List Int) (r_13 : List Int) (r_14 : List Int) : m_recurrence_Matches std r_1 r_2 r_3 r_4 r_5 start_1 l_1 r_6 r_7 r_8 r_9 r_10 r_11 r_12 r_13 r_14 =
((Option.bind (m_recurrence_given std r_1 r_2 r_3 r_4 r_5 start_1 r_6 r_7 r_8 r_9 r_10 r_11 r_12 r_13 r_14) fun n63 =>
  bif (!(n63 == 0)) then
    (some (false, n63))
  else
    Option.bind (m_recurrence_local std l_1) fun b32 =>
    bif (!b32) then
      (some (false, 2))
    else
      Option.bind (m_integer_Floor std l_1 86400) fun n64 =>
      Option.bind (
        bif (decide (l_1 < start_1)) then
          (some true)
        else
          bif (!(r_4 == 0)) then
            bif (decide (r_4 < l_1)) then
              (some true)
            else
              Option.bind (m_recurrence_number std r_1 r_2 r_3 r_4 r_5 l_1 r_6 r_7 r_8 r_9 r_10 r_11 r_12 r_13 r_14) fun n65 =>
              Option.bind (m_recurrence_number std r_1 r_2 r_3 r_4 r_5 start_1 r_6 r_7 r_8 r_9 r_10 r_11 r_12 r_13 r_14) fun n66 =>
              grd (okI .i64 ((n65 - n66))) <|
              grd (okNz r_2) <|
              (some (!((Int.tmod (n65 - n66) r_2) == 0)))
          else
            Option.bind (m_recurrence_number std r_1 r_2 r_3 r_4 r_5 l_1 r_6 r_7 r_8 r_9 r_10 r_11 r_12 r_13 r_14) fun n67 =>
            Option.bind (m_recurrence_number std r_1 r_2 r_3 r_4 r_5 start_1 r_6 r_7 r_8 r_9 r_10 r_11 r_12 r_13 r_14) fun n68 =>
            grd (okI .i64 ((n67 - n68))) <|
            grd (okNz r_2) <|
            (some (!((Int.tmod (n67 - n68) r_2) == 0))) : Option ((Bool))) fun x124 =>
      bif x124 then
        (some (false, 0))
      else
        Option.bind (
          Option.bind (m_recurrence_times std r_1 r_2 r_3 r_4 r_5 start_1 r_6 r_7 r_8 r_9 r_10 r_11 r_12 r_13 r_14) fun l27 =>
          Option.bind (m_integer_Mod std l_1 86400) fun n69 =>
          Option.bind (m_slices_Contains std n69 l27) fun b33 =>
          bif (!b33) then
            (some true)
          else
            Option.bind (m_integer_Floor std start_1 86400) fun n70 =>
            Option.bind (m_recurrence_dateOf std n70) fun (n71, n72, n73, n74, n75, n76, n77, n78) =>
            Option.bind (m_recurrence_passes std r_1 r_2 r_3 r_4 r_5 n71 n72 n73 n74 n75 n76 n77 n78 n64 r_6 r_7 r_8 r_9 r_10 r_11 r_12 r_13 r_14) fun b34 =>
            (some (!b34)) : Option ((Bool))) fun x126 =>
        bif x126 then
          (some (false, 0))
        else
          bif ((((List.length r_14) : Nat) : Int) == 0) then
            (some (true, 0))
          else
            Option.bind (m_recurrence_place std r_1 r_2 r_3 r_4 r_5 start_1 l_1 r_6 r_7 r_8 r_9 r_10 r_11 r_12 r_13 r_14) fun (n79, n80) =>
            Option.bind (m_recurrence_counted std n79 n80 r_14) fun b35 =>
            (some (b35, 0))) : Option (Bool × Int)) := rfl
theorem m_law29_awake_eq : m_law29_awake std =
((Option.bind (m_recurrence_Matches std 4 2 0 0 1 0 345600 (([] : List Int)) (([] : List Int)) (([] : List Int)) (([] : List Int)) (([] : List (Int × Int))) (([] : List Int)) (([] : List Int)) (([] : List Int)) (([] : List Int))) fun (b36, n81) =>
  Option.bind (m_recurrence_Matches std 2 1 0 0 1 0 2505600 (([] : List Int)) (([] : List Int)) (([] : List Int)) (([] : List Int)) ([((-1), 5)]) (([] : List Int)) (([] : List Int)) (([] : List Int)) (([] : List Int))) fun (b37, n82) =>
  Option.bind (
    bif b36 then
      bif (n81 == 0) then
        bif b37 then
          (some (n82 == 0))
        else
          (some false)
      else
        (some false)
    else
      (some false) : Option ((Bool))) fun x130 =>
  (some x130)) : Option (Bool)) := rfl
end Go.Proofs.Ytmnhfaaaaejpaaa.R
namespace Go.Proofs.Ytmnhfaaaaejpaaa
open Go.RowKit
set_option maxRecDepth 100000

theorem m_recurrence_days_eq (r_1 : Int) (r_2 : Int) (r_3 : Int) (r_4 : Int) (r_5 : Int) (l_1 : Int) (r_6 : List Int) (r_7 : List Int) (r_8 : List Int) (r_9 : List Int) (r_10 : List (Int × Int)) (r_11 : List Int) (r_12 : List Int) (r_13 : List Int) (r_14 : List Int) : m_recurrence_days std r_1 r_2 r_3 r_4 r_5 l_1 r_6 r_7 r_8 r_9 r_10 r_11 r_12 r_13 r_14 =
((Option.bind (m_integer_Floor std l_1 86400) fun n59 =>
  Option.bind (m_recurrence_dateOf std n59) fun (_, _, _, _, n64, n65, n66, n67) =>
  grd (okI .i64 ((n59 + 1))) <|
  Option.bind (
    bif (r_1 == 1) then
      (some (decide (0 < (((List.length r_9) : Nat) : Int))))
    else
      (some false) : Option ((Bool))) fun x70 =>
  Option.bind (
    bif x70 then
      Option.bind (m_recurrence_weekYear std n59 r_5) fun n68 =>
      grd (okI .i64 ((n68 + 1))) <|
      Option.bind (m_recurrence_firstWeek std n68 r_5) fun n69 =>
      Option.bind (m_recurrence_firstWeek std ((n68 + 1)) r_5) fun n70 =>
      (some (n69, n70))
    else
      Option.bind (
        bif (r_1 == 1) then
          grd (okI .i64 ((n59 - n64))) <|
          grd (okI .i64 (((n59 - n64) + 1))) <|
          grd (okI .i64 ((((n59 - n64) + 1) + n65))) <|
          (some (((n59 - n64) + 1), (((n59 - n64) + 1) + n65)))
        else
          Option.bind (
            bif (r_1 == 2) then
              grd (okI .i64 ((n59 - n66))) <|
              grd (okI .i64 (((n59 - n66) + 1))) <|
              grd (okI .i64 ((((n59 - n66) + 1) + n67))) <|
              (some (((n59 - n66) + 1), (((n59 - n66) + 1) + n67)))
            else
              Option.bind (
                bif (r_1 == 3) then
                  Option.bind (m_recurrence_week std n59 r_5) fun n71 =>
                  grd (okI .i64 ((n71 + 7))) <|
                  (some (n71, (n71 + 7)))
                else
                  (some (n59, (n59 + 1))) : Option ((Int × Int))) fun (x73, x74) =>
              (some (x73, x74)) : Option ((Int × Int))) fun (x77, x78) =>
          (some (x77, x78)) : Option ((Int × Int))) fun (x81, x82) =>
      (some (x81, x82)) : Option ((Int × Int))) fun (x85, x86) =>
  (some (x85, x86))) : Option (Int × Int)) := rfl
end Go.Proofs.Ytmnhfaaaaejpaaa
namespace Go.Proofs.Ytmnhfaaaaejpaaa.R
open Go.RowKit Go.Proofs.Ytmnhfaaaaejpaaa

section
variable {α β : Type}
theorem tB {x : Option α} {f : α → Option β} (h : ∃ a, x = some a) (hf : ∀ a, x = some a → ∃ b, f a = some b) : ∃ b, Option.bind x f = some b := by
  obtain ⟨a, e⟩ := h
  obtain ⟨b, g⟩ := hf a e
  exact ⟨b, bB e g⟩
theorem tC {c : Bool} {x y : Option α} (h1 : c = true → ∃ b, x = some b) (h2 : c = false → ∃ b, y = some b) : ∃ b, (bif c then x else y) = some b := by
  cases c
  · exact h2 rfl
  · exact h1 rfl
theorem tI {n : Int} {x : Option α} (h : -9223372036854775808 ≤ n ∧ n ≤ 9223372036854775807) (hx : ∃ b, x = some b) : ∃ b, grd (okI .i64 n) x = some b := by obtain ⟨b, e⟩ := hx; exact ⟨b, gI h e⟩
theorem tZ {n : Int} {x : Option α} (h : n ≠ 0) (hx : ∃ b, x = some b) : ∃ b, grd (okNz n) x = some b := by obtain ⟨b, e⟩ := hx; exact ⟨b, gZ h e⟩
end
theorem t_contains (v : Int) {l : List Int} (hl : l.length ≤ 1000000000) : ∃ b, m_slices_Contains std v l = some b := by
  rw [m_slices_Contains_eq]
  refine tB ?_ fun a _ => ⟨_, rfl⟩
  rw [m_slices_Index_eq]
  have := loop_is (B := m_slices_Index_L1 std l v) (fun s => ∃ i : Nat, s = (i : Int) ∧ i ≤ l.length) (fun s => ((l.length : Int) - s).toNat) (fun _ => True) (y := 0) ⟨0, rfl, Nat.zero_le _⟩ (by show ((l.length : Int) - 0).toNat < _; omega) (fun s hs => by
    obtain ⟨i, rfl, hi⟩ := hs
    rw [m_slices_Index_L1_eq]
    by_cases c : i < l.length
    · cases hv : (v == l.getD i 0) with
      | true => exact ⟨.inr (.inl (i : Int)), bT (dT (by omega)) (gX (by omega) (gK (by omega) (bT (by rw [Int.toNat_natCast]; exact hv) rfl))), trivial⟩
      | false => exact ⟨.inl ((i : Int) + 1), bT (dT (by omega)) (gX (by omega) (gK (by omega) (bF (by rw [Int.toNat_natCast]; exact hv) (gI (by omega) rfl)))), ⟨i + 1, rfl, c⟩, by show ((l.length : Int) - ((i : Int) + 1)).toNat < ((l.length : Int) - (i : Int)).toNat; omega⟩
    · exact ⟨.inr (.inr ()), bF (dF (by omega)) rfl, trivial⟩)
  obtain ⟨e, he, _⟩ := this
  refine tB ⟨e, he⟩ fun e _ => ?_
  cases e with
  | inl x => exact ⟨_, rfl⟩
  | inr x => exact ⟨_, rfl⟩
theorem t_counted {n o : Int} {l : List Int} (hn : -2000000000000 ≤ n ∧ n ≤ 2000000000000) (ho : -2000000000000 ≤ o ∧ o ≤ 2000000000000) (hl : l.length ≤ 1000000000) : ∃ b, m_recurrence_counted std n o l = some b := by
  rw [m_recurrence_counted_eq]
  refine tB (tC (fun _ => ⟨_, rfl⟩) fun _ => tB (t_contains _ hl) fun b _ => tC (fun _ => ⟨_, rfl⟩) fun _ => tI (by omega) (tI (by omega) (tB (t_contains _ hl) fun b _ => ⟨_, rfl⟩))) fun b _ => ⟨_, rfl⟩
theorem quo7 {x : Int} (h : -1000000000000 ≤ x ∧ x ≤ 1000000000000) : -1000000000000 ≤ Int.tdiv x 7 ∧ Int.tdiv x 7 ≤ 1000000000000 := by
  rcases Int.le_total 0 x with h0 | h0
  · have h1 : Int.tdiv x 7 = x / 7 := Int.tdiv_eq_ediv_of_nonneg h0
    rw [h1]; omega
  · obtain ⟨y, rfl⟩ : ∃ y, x = -y := ⟨-x, by omega⟩
    rw [Int.neg_tdiv]
    have h1 : Int.tdiv y 7 = y / 7 := Int.tdiv_eq_ediv_of_nonneg (by omega)
    rw [h1]; omega
theorem t_nth1 {a b w n o : Int} (hn : -1000000000 ≤ n ∧ n ≤ 1000000000) (ho : -1000000000 ≤ o ∧ o ≤ 1000000000) : ∃ r, m_recurrence_nth_1 std a b w n o = some r := by
  rw [m_recurrence_nth_1_eq]
  have q1 := quo7 (x := n - 1) (by omega)
  have q2 := quo7 (x := o - n) (by omega)
  refine tB (tC (fun _ => tC (fun _ => ⟨_, rfl⟩) fun _ => tC (fun _ => tI (by omega) (tZ (by omega) (tI (by omega) (tI (by omega) ⟨_, rfl⟩)))) fun _ => tI (by omega) (tZ (by omega) (tI (by omega) (tI (by omega) (tI (by omega) (tI (by omega) (tI (by omega) (tI (by omega) ⟨_, rfl⟩)))))))) fun _ => ⟨_, rfl⟩) fun b _ => ⟨_, rfl⟩
theorem t_nth {w n o : Int} {l : List (Int × Int)} (hl : l.length ≤ 1000000000) (hn : -1000000000 ≤ n ∧ n ≤ 1000000000) (ho : -1000000000 ≤ o ∧ o ≤ 1000000000) : ∃ r, m_recurrence_nth std w n o l = some r := by
  rw [m_recurrence_nth_eq]
  refine tB (tC (fun _ => ⟨_, rfl⟩) fun _ => tB ?_ fun _ _ => ⟨_, rfl⟩) fun _ _ => ⟨_, rfl⟩
  rw [m_slices_ContainsFunc_2_eq]
  refine tB ?_ fun a _ => ⟨_, rfl⟩
  rw [m_slices_IndexFunc_2_eq]
  have := loop_is (B := m_slices_IndexFunc_2_L1 std w n o l) (fun s => ∃ i : Nat, s = (i : Int) ∧ i ≤ l.length) (fun s => ((l.length : Int) - s).toNat) (fun _ => True) (y := 0) ⟨0, rfl, Nat.zero_le _⟩ (by show ((l.length : Int) - 0).toNat < _; omega) (fun s hs => by
    obtain ⟨i, rfl, hi⟩ := hs
    rw [m_slices_IndexFunc_2_L1_eq]
    by_cases c : i < l.length
    · obtain ⟨b, hb⟩ := t_nth1 (a := (l.getD (Int.toNat (i : Int)) (0, 0)).1) (b := (l.getD (Int.toNat (i : Int)) (0, 0)).2) (w := w) hn ho
      cases b with
      | true => exact ⟨.inr (.inl (i : Int)), bT (dT (by omega)) (gX (by omega) (gK (by omega) (bB hb (bT rfl rfl)))), trivial⟩
      | false => exact ⟨.inl ((i : Int) + 1), bT (dT (by omega)) (gX (by omega) (gK (by omega) (bB hb (bF rfl (gI (by omega) rfl))))), ⟨i + 1, rfl, c⟩, by show ((l.length : Int) - ((i : Int) + 1)).toNat < ((l.length : Int) - (i : Int)).toNat; omega⟩
    · exact ⟨.inr (.inr ()), bF (dF (by omega)) rfl, trivial⟩)
  obtain ⟨e, he, _⟩ := this
  refine tB ⟨e, he⟩ fun e _ => ?_
  cases e with
  | inl x => exact ⟨_, rfl⟩
  | inr x => exact ⟨_, rfl⟩
theorem t_firstWeek {y s : Int} (h1 : -1000 ≤ y) (h2 : y ≤ 11000) (s1 : 1 ≤ s) (s2 : s ≤ 7) : m_recurrence_firstWeek std y s = some (wkS (nyr y + 3) s) := by
  have := nyr_small h1 h2
  rw [m_recurrence_firstWeek_eq]
  exact bB (p_recurrence_newYear (by omega) (by omega)) (gI (by omega) (bB (p_recurrence_week (by omega) (by omega) s1 s2) rfl))
theorem t_isyr {day y : Int} (h : IsYr day y) (h1 : -800000 ≤ day) (h2 : day ≤ 3000000) : -300 ≤ y ∧ y ≤ 10500 := by
  obtain ⟨a, b⟩ := h
  unfold nyr at a b
  omega
theorem t_cLen (y m : Int) : 0 ≤ cLen y m ∧ cLen y m ≤ 31 := by
  unfold cLen
  split
  · omega
  · split
    · omega
    · unfold cTab
      repeat' split
      all_goals omega
structure DateOk (day y m d p q u v : Int) : Prop where
  e : m_recurrence_dateOf std day = some (y, m, d, day, p, q, u, v)
  p1 : -10000000 ≤ p ∧ p ≤ 10000000
  q1 : -10000000 ≤ q ∧ q ≤ 10000000
  u1 : -100000000 ≤ u ∧ u ≤ 100000000
  v1 : 0 ≤ v ∧ v ≤ 31
theorem t_dateOf {day : Int} (h1 : -719162 ≤ day) (h2 : day < 2932897) : ∃ y m d p q u v, DateOk day y m d p q u v := by
  obtain ⟨y, m, d, hD, h⟩ := p_civil_Date h1 h2
  have y1 := h.y1
  have y2 := h.y2
  have b1 := nyr_small (y := y) (by omega) (by omega)
  have b2 := nyr_small (y := y + 1) (by omega) (by omega)
  have b3 := cnt_bd (y := y) (m := m) (d := 1) y1 (by omega) h.m1 h.m2 (by omega) (by omega)
  have d0 := h.d0
  refine ⟨y, m, d, day - nyr y + 1, nyr (y + 1) - nyr y, d, cLen y m, p_recurrence_dateOf h1 h2 hD h, ?_, ?_, by omega, t_cLen y m⟩
  · have g1 := nyr_le (show 1 ≤ y by omega)
    have g2 := nyr_le (show y ≤ 10000 by omega)
    rw [nyr_one] at g1
    rw [nyr_end] at g2
    omega
  · have g1 := nyr_le (show 1 ≤ y by omega)
    have g2 := nyr_le (show y ≤ 10000 by omega)
    have g3 := nyr_le (show 1 ≤ y + 1 by omega)
    have g4 := nyr_le (show y + 1 ≤ 10000 by omega)
    rw [nyr_one] at g1 g3
    rw [nyr_end] at g2 g4
    omega
/-- what a valid rule's parts are -/
structure Vld (r : Rec) : Prop where
  f1 : 1 ≤ r.f ∧ r.f ≤ 5
  n1 : 1 ≤ r.N ∧ r.N ≤ 1000
  w1 : 1 ≤ r.w ∧ r.w ≤ 7
  un : untB r.c r.u = true
  mo : r.mo.length ≤ 60
  md : r.md.length ≤ 60
  yd : r.yd.length ≤ 60
  wk : r.wk.length ≤ 60
  dy : r.dy.length ≤ 60
  h : r.h.length ≤ 60 ∧ ∀ x ∈ r.h, 0 ≤ x ∧ x ≤ 23
  m : r.m.length ≤ 60 ∧ ∀ x ∈ r.m, 0 ≤ x ∧ x ≤ 59
  s : r.s.length ≤ 60 ∧ ∀ x ∈ r.s, 0 ≤ x ∧ x ≤ 59
  ps : r.ps.length ≤ 60
  tm : numL (hrN r.f) r.h * (numL 1 r.m * numL 1 r.s) ≤ 1440
theorem lst_len {low high : Int} {b : Bool} {l : List Int} (h : lstB low high b l = true) : l.length ≤ 60 := by
  unfold lstB at h
  rw [Bool.and_eq_true, decide_eq_true_eq] at h
  omega
theorem lst_in {low high : Int} {l : List Int} (h : lstB low high false l = true) : ∀ x ∈ l, low ≤ x ∧ x ≤ high := by
  unfold lstB at h
  rw [Bool.and_eq_true, List.all_eq_true] at h
  intro x hx
  have := h.2 x hx
  unfold inRg at this
  simp at this
  exact this
theorem vld {r : Rec} (hv : vldB r = true) : Vld r := by
  unfold vldB at hv
  simp only [Bool.and_eq_true, decide_eq_true_eq] at hv
  obtain ⟨a1, a2, a3, a4, a5, a6, a7, a8, a9, b1, b2, b3, b4, b5, b6, b7⟩ := hv
  unfold dayL at b6
  unfold tmsB at b7
  rw [Bool.and_eq_true, decide_eq_true_eq] at b6
  rw [decide_eq_true_eq] at b7
  exact ⟨a1, a2, a3, a5, lst_len a6, lst_len a7, lst_len a8, lst_len a9, by omega, ⟨lst_len b1, lst_in b1⟩, ⟨lst_len b2, lst_in b2⟩, ⟨lst_len b3, lst_in b3⟩, lst_len b4, by omega⟩
section
variable {r : Rec} (hv : Vld r)
include hv
theorem t_passes {x d1 d2 d3 d4 d5 d6 d7 d8 : Int} (h1 : -719162 ≤ x) (h2 : x < 2932897) (g1 : -719162 ≤ d4) (g2 : d4 < 2932897) :
    ∃ b, m_recurrence_passes std r.f r.N r.c r.u r.w d1 d2 d3 d4 d5 d6 d7 d8 x r.mo r.md r.yd r.wk r.dy r.h r.m r.s r.ps = some b := by
  obtain ⟨y, m, d, p, q, u, v, hd⟩ := t_dateOf h1 h2
  obtain ⟨e, p1, q1, u1, v1⟩ := hd
  have w1 := hv.w1
  rw [m_recurrence_passes_eq]
  refine tB ⟨_, e⟩ fun a ha => ?_
  rw [e] at ha
  injection ha with ha
  subst ha
  simp only []
  refine tB ?_ fun b _ => tC (fun _ => ⟨_, rfl⟩) fun _ => tI (by omega) (tB ?_ fun b _ => tC (fun _ => ⟨_, rfl⟩) fun _ => tI (by omega) (tB ?_ fun b _ => tC (fun _ => ⟨_, rfl⟩) fun _ => tI (by omega) (tB ?_ fun b _ => tC (fun _ => ⟨_, rfl⟩) fun _ => tI (by omega) (tB ?_ fun b _ => tC (fun _ => ⟨_, rfl⟩) fun _ => tI (by omega) (tB ?_ fun b _ => tC (fun _ => ⟨_, rfl⟩) fun _ => tI (by omega) ⟨_, rfl⟩)))))
  · rw [m_recurrence_filters_1_eq]
    exact tB (tC (fun _ => ⟨_, rfl⟩) fun _ => tB (t_contains _ (by have := hv.mo; omega)) fun _ _ => ⟨_, rfl⟩) fun _ _ => ⟨_, rfl⟩
  · rw [m_recurrence_filters_2_eq]
    exact tB (t_counted (by omega) (by omega) (by have := hv.md; omega)) fun _ _ => ⟨_, rfl⟩
  · rw [m_recurrence_filters_3_eq]
    exact tB (t_counted (by omega) (by omega) (by have := hv.yd; omega)) fun _ _ => ⟨_, rfl⟩
  · rw [m_recurrence_filters_4_eq]
    refine tC (fun _ => ⟨_, rfl⟩) fun _ => ?_
    obtain ⟨Y, eY, hY⟩ := p_weekYear h1 h2 w1.1 w1.2
    have wb := wkS_bd x r.w
    have yb := t_isyr hY (by omega) (by omega)
    have n1 := nyr_small (y := Y) (by omega) (by omega)
    have n2 := nyr_small (y := Y + 1) (by omega) (by omega)
    have wb1 := wkS_bd (nyr Y + 3) r.w
    have wb2 := wkS_bd (nyr (Y + 1) + 3) r.w
    refine tB ⟨_, eY⟩ fun a ha => ?_
    rw [eY] at ha
    injection ha with ha
    subst ha
    have e1 := t_firstWeek (y := Y) (by omega) (by omega) w1.1 w1.2
    refine tB ⟨_, e1⟩ fun a ha => ?_
    rw [e1] at ha
    injection ha with ha
    subst ha
    have q1 := quo7 (x := x - wkS (nyr Y + 3) r.w) (by omega)
    refine tI (by omega) (tZ (by omega) (tI (by omega) (tI (by omega) (tI (by omega) ?_))))
    have e2 : m_recurrence_firstWeek std (Y + 1) r.w = some (wkS (nyr (Y + 1) + 3) r.w) := t_firstWeek (by omega) (by omega) w1.1 w1.2
    refine tB ⟨_, e2⟩ fun a ha => ?_
    rw [e2] at ha
    injection ha with ha
    subst ha
    have q2 := quo7 (x := wkS (nyr (Y + 1) + 3) r.w - wkS (nyr Y + 3) r.w) (by omega)
    exact tI (by omega) (tI (by omega) (tB (t_counted (by omega) (by omega) (by have := hv.wk; omega)) fun _ _ => ⟨_, rfl⟩))
  · rw [m_recurrence_filters_5_eq]
    refine tB (tC (fun _ => ⟨_, rfl⟩) fun _ => ⟨_, rfl⟩) fun b _ => tC (fun _ => tB ⟨_, p_recurrence_weekday (by omega) (by omega)⟩ fun _ _ => tB (t_nth (by have := hv.dy; omega) (by omega) (by omega)) fun _ _ => ⟨_, rfl⟩) fun _ => tB ⟨_, p_recurrence_weekday (by omega) (by omega)⟩ fun _ _ => tB (t_nth (by have := hv.dy; omega) (by omega) (by omega)) fun _ _ => ⟨_, rfl⟩
  · rw [m_recurrence_filters_6_eq]
    refine tB (tC (fun _ => ⟨_, rfl⟩) fun _ => tC (fun _ => ⟨_, rfl⟩) fun _ => ⟨_, rfl⟩) fun b _ => tC (fun _ => ⟨_, rfl⟩) fun _ => tB ⟨_, p_recurrence_weekday (by omega) (by omega)⟩ fun _ _ => tB ⟨_, p_recurrence_weekday (by omega) (by omega)⟩ fun _ _ => tB (tC (fun _ => ⟨_, rfl⟩) fun _ => ⟨_, rfl⟩) fun _ _ => tB (tC (fun _ => ⟨_, rfl⟩) fun _ => ⟨_, rfl⟩) fun _ _ => tB (tC (fun _ => ⟨_, rfl⟩) fun _ => tB (tC (fun _ => tB (tC (fun _ => tC (fun _ => ⟨_, rfl⟩) fun _ => ⟨_, rfl⟩) fun _ => ⟨_, rfl⟩) fun _ _ => ⟨_, rfl⟩) fun _ => tC (fun _ => ⟨_, rfl⟩) fun _ => ⟨_, rfl⟩) fun e _ => ?_) fun e _ => ?_
    · cases e with
      | inl x => exact ⟨_, rfl⟩
      | inr x => exact ⟨_, rfl⟩
    · cases e with
      | inl x => exact ⟨_, rfl⟩
      | inr x => exact ⟨_, rfl⟩
end
/-! the times of a day -/
theorem partL_in {B o : Int} {l : List Int} (ho : 0 ≤ o ∧ o ≤ B) (h : ∀ x ∈ l, 0 ≤ x ∧ x ≤ B) : ∀ x ∈ partL o l, 0 ≤ x ∧ x ≤ B := by
  intro x hx
  unfold partL at hx
  split at hx
  · rw [List.mem_singleton.1 hx]; exact ho
  · exact h x (((setL_ok l).2 x).1 hx)
def TOk (l : List Int) : Prop := ∀ x ∈ l, 0 ≤ x ∧ x < 86400
section
variable {hs ms ss : List Int} (bh : ∀ x ∈ hs, 0 ≤ x ∧ x ≤ 23) (bm : ∀ x ∈ ms, 0 ≤ x ∧ x ≤ 59) (bs : ∀ x ∈ ss, 0 ≤ x ∧ x ≤ 59) (lh : hs.length ≤ 100) (lm : ms.length ≤ 100) (ls : ss.length ≤ 100)
include bh bm bs ls in
theorem q_times_L2 {i j : Nat} (hi : i < hs.length) (hj : j < ms.length) {out : List Int} (ho : out.length ≤ 10000000) (hto : TOk out) :
    ∃ r, loop (m_recurrence_times_L2 std ms ss hs (i : Int) (j : Int)) (0, out) = some r ∧ r.length = out.length + ss.length ∧ TOk r := by
  refine loop_is (B := m_recurrence_times_L2 std ms ss hs (i : Int) (j : Int)) (fun s => ∃ k : Nat, s.1 = (k : Int) ∧ k ≤ ss.length ∧ s.2.length = out.length + k ∧ TOk s.2) (fun s => (100 - s.1).toNat) (fun r => r.length = out.length + ss.length ∧ TOk r) ⟨0, rfl, Nat.zero_le _, rfl, hto⟩ (by show (100 - (0 : Int)).toNat < _; decide) (fun s hs' => ?_)
  obtain ⟨s1, o⟩ := s
  obtain ⟨k, rfl, hk, hl, ht⟩ := hs'
  simp only [] at hl
  rw [m_recurrence_times_L2_eq]
  by_cases c : k < ss.length
  · have x1 := bh _ (getD_mem hi)
    have x2 := bm _ (getD_mem hj)
    have x3 := bs _ (getD_mem c)
    refine ⟨.inl ((k : Int) + 1, o ++ [3600 * hs.getD i 0 + 60 * ms.getD j 0 + ss.getD k 0]), bT (dT (by omega)) ?_, ⟨k + 1, rfl, c, by rw [List.length_append, hl]; rfl, fun x hx => ?_⟩, by simp only []; omega⟩
    · simp only [Int.toNat_natCast]
      generalize hs.getD i 0 = x at *
      generalize ms.getD j 0 = y at *
      generalize ss.getD k 0 = z at *
      exact gX (by omega) (gK (by omega) (gI (by omega) (gI (by omega) (gI (by omega) (gI (by omega) (gR (by omega) (gR (by simp) (gI (by omega) rfl))))))))
    · rcases List.mem_append.1 hx with hx | hx
      · exact ht x hx
      · rw [List.mem_singleton.1 hx]; omega
  · exact ⟨.inr o, bF (dF (by omega)) rfl, by omega, ht⟩
include bh bm bs lm ls in
theorem q_times_L3 {i : Nat} (hi : i < hs.length) {out : List Int} (ho : out.length ≤ 1000000) (hto : TOk out) :
    ∃ r, loop (m_recurrence_times_L3 std ms ss hs (i : Int)) (0, out) = some r ∧ r.length = out.length + ms.length * ss.length ∧ TOk r := by
  refine loop_is (B := m_recurrence_times_L3 std ms ss hs (i : Int)) (fun s => ∃ k : Nat, s.1 = (k : Int) ∧ k ≤ ms.length ∧ s.2.length = out.length + k * ss.length ∧ TOk s.2) (fun s => (100 - s.1).toNat) (fun r => r.length = out.length + ms.length * ss.length ∧ TOk r) ⟨0, rfl, Nat.zero_le _, by simp, hto⟩ (by show (100 - (0 : Int)).toNat < _; decide) (fun s hs' => ?_)
  obtain ⟨s1, o⟩ := s
  obtain ⟨k, rfl, hk, hl, ht⟩ := hs'
  simp only [] at hl
  rw [m_recurrence_times_L3_eq]
  by_cases c : k < ms.length
  · have hb : k * ss.length ≤ 100 * 100 := Nat.mul_le_mul (by omega) ls
    obtain ⟨r, er, hr, htr⟩ := q_times_L2 bh bm bs ls hi c (out := o) (by omega) ht
    refine ⟨.inl ((k : Int) + 1, r), bT (dT (by omega)) (gX (by omega) (gK (by omega) (bB er (gI (by omega) rfl)))), ⟨k + 1, rfl, c, ?_, htr⟩, by simp only []; omega⟩
    simp only []
    rw [hr, hl, Nat.succ_mul, Nat.add_assoc]
  · have e : k = ms.length := by omega
    subst e
    exact ⟨.inr o, bF (dF (by omega)) rfl, hl, ht⟩
include bh bm bs lh lm ls in
theorem q_times_L4 : ∃ r, loop (m_recurrence_times_L4 std ms ss hs) (0, []) = some r ∧ r.length = hs.length * (ms.length * ss.length) ∧ TOk r := by
  refine loop_is (B := m_recurrence_times_L4 std ms ss hs) (fun s => ∃ k : Nat, s.1 = (k : Int) ∧ k ≤ hs.length ∧ s.2.length = k * (ms.length * ss.length) ∧ TOk s.2) (fun s => (100 - s.1).toNat) (fun r => r.length = hs.length * (ms.length * ss.length) ∧ TOk r) ⟨0, rfl, Nat.zero_le _, by simp, fun x hx => by cases hx⟩ (by show (100 - (0 : Int)).toNat < _; decide) (fun s hs' => ?_)
  obtain ⟨s1, o⟩ := s
  obtain ⟨k, rfl, hk, hl, ht⟩ := hs'
  simp only [] at hl
  rw [m_recurrence_times_L4_eq]
  by_cases c : k < hs.length
  · have hb1 : ms.length * ss.length ≤ 100 * 100 := Nat.mul_le_mul lm ls
    have hb : k * (ms.length * ss.length) ≤ 100 * (100 * 100) := Nat.mul_le_mul (by omega) hb1
    obtain ⟨r, er, hr, htr⟩ := q_times_L3 bh bm bs lm ls c (out := o) (by omega) ht
    refine ⟨.inl ((k : Int) + 1, r), bT (dT (by omega)) (gX (by omega) (gK (by omega) (bB er (gI (by omega) rfl)))), ⟨k + 1, rfl, c, ?_, htr⟩, by simp only []; omega⟩
    simp only []
    rw [hr, hl, Nat.succ_mul]
  · have e : k = hs.length := by omega
    subst e
    exact ⟨.inr o, bF (dF (by omega)) rfl, hl, ht⟩
end
theorem hours_loop' : ∃ l, loop (m_recurrence_times_L1 std) (0, ([] : List Int)) = some l ∧ l.length = 24 ∧ ∀ x ∈ l, 0 ≤ x ∧ x ≤ 23 :=
  ⟨[0, 1, 2, 3, 4, 5, 6, 7, 8, 9, 10, 11, 12, 13, 14, 15, 16, 17, 18, 19, 20, 21, 22, 23], by kernel_rfl, rfl, by decide⟩
section
variable {r : Rec} (hv : Vld r)
include hv
theorem t_times {start : Int} (h1 : -62135596800 ≤ start) (h2 : start < 253402300800) : ∃ S, m_recurrence_times std r.f r.N r.c r.u r.w start r.mo r.md r.yd r.wk r.dy r.h r.m r.s r.ps = some S ∧ S.length ≤ 1440 ∧ TOk S := by
  obtain ⟨lh, bh⟩ := hv.h
  obtain ⟨lm, bm⟩ := hv.m
  obtain ⟨ls, bs⟩ := hv.s
  obtain ⟨q, hq⟩ : ∃ q, q = start % 86400 := ⟨_, rfl⟩
  have q1 : 0 ≤ q ∧ q < 86400 := by omega
  have t1 : Int.tdiv q 3600 = q / 3600 := Int.tdiv_eq_ediv_of_nonneg q1.1
  have t2 : Int.tdiv q 60 = q / 60 := Int.tdiv_eq_ediv_of_nonneg q1.1
  have t3 : Int.tmod (q / 60) 60 = (q / 60) % 60 := Int.tmod_eq_emod_of_nonneg (by omega)
  have t4 : Int.tmod q 60 = q % 60 := Int.tmod_eq_emod_of_nonneg q1.1
  obtain ⟨hs, e9, n9, l9, b9⟩ : ∃ hs, (Option.bind (Option.bind (bif ((((List.length r.h) : Nat) : Int) == 0) then (some (r.f == 5)) else (some false)) fun x57 => bif x57 then Option.bind (loop (m_recurrence_times_L1 std) (0, ([] : List Int))) fun l7 => (some l7) else (some (partL (q / 3600) r.h))) fun q => some q) = some hs ∧ hs.length = numL (hrN r.f) r.h ∧ hs.length ≤ 100 ∧ ∀ x ∈ hs, 0 ≤ x ∧ x ≤ 23 := by
    by_cases c1 : r.h = [] ∧ r.f = 5
    · obtain ⟨c1, c2⟩ := c1
      obtain ⟨l, e, hl, hb⟩ := hours_loop'
      rw [c1, c2]
      exact ⟨l, bB (bB (v := true) rfl (bT rfl (bB e rfl))) rfl, by rw [hl]; rfl, by omega, hb⟩
    · refine ⟨partL (q / 3600) r.h, bB (bB (v := false) ?_ (bF rfl rfl)) rfl, ?_, partL_len (by omega), partL_in (by omega) bh⟩
      · cases hh : r.h with
        | nil => exact congrArg some (eF fun e => c1 ⟨hh, e⟩)
        | cons x t => exact bF (eF (by rw [List.length_cons]; omega)) rfl
      · unfold partL numL hrN
        split
        · rename_i e; rw [if_neg fun g => c1 ⟨e, g⟩]; rfl
        · rfl
  obtain ⟨S, er, hr, hS⟩ := q_times_L4 b9 (partL_in (o := q / 60 % 60) (by omega) bm) (partL_in (o := q % 60) (by omega) bs) l9 (partL_len (by omega)) (partL_len (by omega))
  refine ⟨S, ?_, by rw [hr, n9, partL_num, partL_num]; exact hv.tm, hS⟩
  rw [m_recurrence_times_eq]
  refine bB (v := q) (by rw [hq]; exact p_integer_Mod start 86400 (by omega) (by omega) (by omega) (by omega)) (gZ (by omega) (gI (by rw [t1]; omega) (bB (by rw [t1]; exact p_times_1 (by omega)) ?_)))
  revert e9
  generalize (bif ((((List.length r.h) : Nat) : Int) == 0) then (some (r.f == 5)) else (some false) : Option Bool) = z
  intro e9
  cases z with
  | none => cases e9
  | some z =>
    refine bB (v := z) rfl ?_
    have e10 : (bif z then Option.bind (loop (m_recurrence_times_L1 std) (0, ([] : List Int))) fun l7 => (some l7) else (some (partL (q / 3600) r.h))) = some hs := by
      revert e9
      simp only [Option.bind_some, Option.bind_fun_some]
      exact fun h => h
    refine bB e10 (gZ (by omega) (gI (by rw [t2]; omega) ?_))
    rw [t2, t3, t4]
    exact bB (p_times_1 (by omega)) (bB (p_times_1 (by omega)) (bB er rfl))
end
end Go.Proofs.Ytmnhfaaaaejpaaa.R
namespace Go.Proofs.Ytmnhfaaaaejpaaa.R
open Go.RowKit Go.Proofs.Ytmnhfaaaaejpaaa

section
variable {α β : Type} {Q : α → Prop} {P : β → Prop}
theorem uB {x : Option α} {f : α → Option β} (h : ∃ a, x = some a ∧ Q a) (hf : ∀ a, Q a → ∃ b, f a = some b ∧ P b) : ∃ b, Option.bind x f = some b ∧ P b := by
  obtain ⟨a, e, q⟩ := h
  obtain ⟨b, g, p⟩ := hf a q
  exact ⟨b, bB e g, p⟩
theorem uC {c : Bool} {x y : Option α} (h1 : c = true → ∃ b, x = some b ∧ Q b) (h2 : c = false → ∃ b, y = some b ∧ Q b) : ∃ b, (bif c then x else y) = some b ∧ Q b := by
  cases c
  · exact h2 rfl
  · exact h1 rfl
theorem uI {n : Int} {x : Option α} (h : -9223372036854775808 ≤ n ∧ n ≤ 9223372036854775807) (hx : ∃ b, x = some b ∧ Q b) : ∃ b, grd (okI .i64 n) x = some b ∧ Q b := by obtain ⟨b, e, q⟩ := hx; exact ⟨b, gI h e, q⟩
end
def Bd2 (p : Int × Int) : Prop := (-100000000000 ≤ p.1 ∧ p.1 ≤ 100000000000) ∧ -100000000000 ≤ p.2 ∧ p.2 ≤ 100000000000
section
variable {r : Rec} (hv : Vld r)
include hv
theorem t_days {l : Int} (h1 : -62135596800 ≤ l) (h2 : l < 253402300800) : ∃ p, m_recurrence_days std r.f r.N r.c r.u r.w l r.mo r.md r.yd r.wk r.dy r.h r.m r.s r.ps = some p ∧ Bd2 p := by
  obtain ⟨w1, w2⟩ := hv.w1
  obtain ⟨D, hD⟩ : ∃ D, D = l / 86400 := ⟨_, rfl⟩
  have d1 : -719162 ≤ D := by omega
  have d2 : D < 2932897 := by omega
  obtain ⟨y, m, d, p, q, u, v, hd⟩ := t_dateOf d1 d2
  obtain ⟨e, p1, q1, u1, v1⟩ := hd
  rw [m_recurrence_days_eq]
  have eF1 : m_integer_Floor std l 86400 = some D := by rw [hD]; exact p_integer_Floor _ _ (by omega) (by omega) (by omega) (by omega)
  rw [eF1, Option.bind_some, e, Option.bind_some]
  simp only []
  refine uI (by omega) (uB (Q := fun _ => True) (uC (fun _ => ⟨_, rfl, trivial⟩) fun _ => ⟨_, rfl, trivial⟩) fun b _ => uB (Q := Bd2) ?_ fun a ha => ⟨_, rfl, ha⟩)
  refine uC (fun _ => ?_) fun _ => ?_
  · obtain ⟨Y, eY, hY⟩ := p_weekYear d1 d2 w1 w2
    have wb := wkS_bd D r.w
    have yb := t_isyr hY (by omega) (by omega)
    have n1 := nyr_small (y := Y) (by omega) (by omega)
    have n2 := nyr_small (y := Y + 1) (by omega) (by omega)
    have wb1 := wkS_bd (nyr Y + 3) r.w
    have wb2 := wkS_bd (nyr (Y + 1) + 3) r.w
    rw [eY, Option.bind_some]
    refine uI (by omega) ?_
    rw [t_firstWeek (by omega) (by omega) w1 w2, Option.bind_some, t_firstWeek (by omega) (by omega) w1 w2, Option.bind_some]
    exact ⟨_, rfl, by unfold Bd2; simp only []; omega⟩
  · refine uB (Q := Bd2) (uC (fun _ => uI (by omega) (uI (by omega) (uI (by omega) ⟨_, rfl, by unfold Bd2; simp only []; omega⟩))) fun _ => uB (Q := Bd2) (uC (fun _ => uI (by omega) (uI (by omega) (uI (by omega) ⟨_, rfl, by unfold Bd2; simp only []; omega⟩))) fun _ => uB (Q := Bd2) (uC (fun _ => ?_) fun _ => ⟨_, rfl, by unfold Bd2; simp only []; omega⟩) fun a ha => ⟨_, rfl, ha⟩) fun a ha => ⟨_, rfl, ha⟩) fun a ha => ⟨_, rfl, ha⟩
    have wb := wkS_bd D r.w
    rw [p_recurrence_week (by omega) (by omega) w1 w2, Option.bind_some]
    exact uI (by omega) ⟨_, rfl, by unfold Bd2; simp only []; omega⟩
/-- the place of a local time always has an answer -/
theorem t_place {start l : Int} (s1 : -62135596800 ≤ start) (s2 : start < 253402300800) (h1 : -62135596800 ≤ l) (h2 : l < 253402300800) :
    ∃ n o, m_recurrence_place std r.f r.N r.c r.u r.w start l r.mo r.md r.yd r.wk r.dy r.h r.m r.s r.ps = some (n, o) ∧ (0 ≤ n ∧ n ≤ 2000000000000) ∧ 0 ≤ o ∧ o ≤ 2000000000000 := by
  obtain ⟨S, eS, lS, hS⟩ := t_times hv s1 s2
  obtain ⟨⟨a, b⟩, eD, bD⟩ := t_days hv h1 h2
  obtain ⟨y, m, d, p, q, u, v, hd⟩ := t_dateOf (day := start / 86400) (by omega) (by omega)
  have eF1 : m_integer_Floor std start 86400 = some (start / 86400) := p_integer_Floor _ _ (by omega) (by omega) (by omega) (by omega)
  unfold m_recurrence_place
  rw [eS, Option.bind_some, eF1, Option.bind_some, hd.e, Option.bind_some]
  simp only []
  rw [eD, Option.bind_some]
  simp only []
  unfold Bd2 at bD
  simp only [] at bD
  have g1 : decide (-9000000000000000 ≤ a ∧ a ≤ 9000000000000000 ∧ -9000000000000000 ≤ b ∧ b ≤ 9000000000000000) = true := dT (by omega)
  have g2 : decide (S.length ≤ 1000000 ∧ -9000000000000000 ≤ l ∧ l ≤ 9000000000000000) = true := dT (by omega)
  have g3 : (S.all fun s => decide (0 ≤ s ∧ s < 86400)) = true := List.all_eq_true.2 fun s hs => dT (hS s hs)
  have hlo : -719162 ≤ loD a := by unfold loD; split <;> omega
  have hhi : hiD b ≤ 2932897 := by unfold hiD; split <;> omega
  have g4 : ∀ L : List (Dy (loD a) (hiD b)), (L.all fun x => (m_recurrence_passes std r.f r.N r.c r.u r.w y m d (start / 86400) p q u v x.1 r.mo r.md r.yd r.wk r.dy r.h r.m r.s r.ps).isSome) = true := fun L => List.all_eq_true.2 fun x _ => by
    obtain ⟨pb, hpb⟩ := t_passes hv (x := x.1) (d1 := y) (d2 := m) (d3 := d) (d4 := start / 86400) (d5 := p) (d6 := q) (d7 := u) (d8 := v) (by have := x.2; omega) (by have := x.2; omega) (by omega) (by omega)
    rw [hpb]; rfl
  rw [g1, g2, g3, g4]
  refine ⟨_, _, rfl, ⟨by omega, ?_⟩, by omega, ?_⟩
  all_goals
    have hlen := dyL_len (lo := loD a) (hi := hiD b) (hiD b - loD a).toNat (Int.le_refl _)
  · have := sumL_bd (fun x : Dy (loD a) (hiD b) => if m_recurrence_passes std r.f r.N r.c r.u r.w y m d (start / 86400) p q u v x.1 r.mo r.md r.yd r.wk r.dy r.h r.m r.s r.ps = some true then cN r.f l x.1 S else 0) 1440 (fun x => by split; exact Nat.le_trans (cN_le ..) lS; exact Nat.zero_le _) (dyL (loD a) (hiD b) (hiD b - loD a).toNat)
    rw [hlen] at this
    omega
  · have := sumL_bd (fun x : Dy (loD a) (hiD b) => if m_recurrence_passes std r.f r.N r.c r.u r.w y m d (start / 86400) p q u v x.1 r.mo r.md r.yd r.wk r.dy r.h r.m r.s r.ps = some true then cO r.f l x.1 S else 0) 1440 (fun x => by split; exact Nat.le_trans (cO_le ..) lS; exact Nat.zero_le _) (dyL (loD a) (hiD b) (hiD b - loD a).toNat)
    rw [hlen] at this
    omega
end
/-- what a rule answers without its positions -/
def allB (start l u N n n0 : Int) (c pb : Bool) : Bool := decide (start ≤ l) && ((u == 0 || decide (l ≤ u)) && ((Int.tmod (n - n0) N == 0) && (c && pb)))
theorem p_Matches {r : Rec} (hb : vldB r = true) {start l n n0 pn po : Int} {S : List Int} {c pb cb : Bool} {y m d p q u v : Int} (hs : locB start = true) (hl : locB l = true)
    (en : m_recurrence_number std r.f r.N r.c r.u r.w l r.mo r.md r.yd r.wk r.dy r.h r.m r.s r.ps = some n) (e0 : m_recurrence_number std r.f r.N r.c r.u r.w start r.mo r.md r.yd r.wk r.dy r.h r.m r.s r.ps = some n0)
    (bn : -1000000000000 ≤ n ∧ n ≤ 1000000000000) (bn0 : -1000000000000 ≤ n0 ∧ n0 ≤ 1000000000000)
    (eS : m_recurrence_times std r.f r.N r.c r.u r.w start r.mo r.md r.yd r.wk r.dy r.h r.m r.s r.ps = some S) (eC : m_slices_Contains std (l % 86400) S = some c) (eD : m_recurrence_dateOf std (start / 86400) = some (y, m, d, start / 86400, p, q, u, v))
    (eP : m_recurrence_passes std r.f r.N r.c r.u r.w y m d (start / 86400) p q u v (l / 86400) r.mo r.md r.yd r.wk r.dy r.h r.m r.s r.ps = some pb)
    (epl : m_recurrence_place std r.f r.N r.c r.u r.w start l r.mo r.md r.yd r.wk r.dy r.h r.m r.s r.ps = some (pn, po)) (ecb : m_recurrence_counted std pn po r.ps = some cb) :
    m_recurrence_Matches std r.f r.N r.c r.u r.w start l r.mo r.md r.yd r.wk r.dy r.h r.m r.s r.ps = some (allB start l r.u r.N n n0 c pb && (if r.ps = [] then true else cb), 0) := by
  have hv := vld hb
  have bs := locB_iff.1 hs
  have bl := locB_iff.1 hl
  have n1 := hv.n1
  rw [m_recurrence_Matches_eq, p_given, hb, hs]
  refine bB rfl (bF rfl (bB (by rw [p_recurrence_local, hl]) (bF rfl (bB (p_integer_Floor _ _ (by omega) (by omega) (by omega) (by omega)) ?_))))
  obtain ⟨X, hX⟩ : ∃ X, X = (decide (start ≤ l) && ((r.u == 0 || decide (l ≤ r.u)) && (Int.tmod (n - n0) r.N == 0))) := ⟨_, rfl⟩
  have hA : allB start l r.u r.N n n0 c pb = (X && (c && pb)) := by rw [hX]; unfold allB; simp only [Bool.and_assoc]
  rw [hA]
  refine bB (v := !X) ?_ ?_
  · rw [hX]
    by_cases c1 : l < start
    · refine bT (dT c1) ?_
      rw [dF (show ¬ start ≤ l by omega)]; rfl
    · refine bF (dF c1) ?_
      rw [dT (show start ≤ l by omega), Bool.true_and]
      have num : ∀ z, z = (Int.tmod (n - n0) r.N == 0) → (Option.bind (m_recurrence_number std r.f r.N r.c r.u r.w l r.mo r.md r.yd r.wk r.dy r.h r.m r.s r.ps) fun n65 => Option.bind (m_recurrence_number std r.f r.N r.c r.u r.w start r.mo r.md r.yd r.wk r.dy r.h r.m r.s r.ps) fun n66 => grd (okI .i64 ((n65 - n66))) <| grd (okNz r.N) <| (some (!((Int.tmod (n65 - n66) r.N) == 0)))) = some (!z) := fun z hz => bB en (bB e0 (gI (by omega) (gZ (by omega) (by rw [hz]))))
      by_cases c2 : r.u = 0
      · rw [eT c2, Bool.true_or, Bool.true_and]
        exact bF (by rw [Bool.not_true]) (num _ rfl)
      · rw [eF c2, Bool.false_or]
        refine bT (by rw [Bool.not_false]) ?_
        by_cases c3 : r.u < l
        · refine bT (dT c3) ?_
          rw [dF (show ¬ l ≤ r.u by omega)]; rfl
        · refine bF (dF c3) ?_
          rw [dT (show l ≤ r.u by omega), Bool.true_and]
          exact num _ rfl
  · cases X with
    | false => exact bT rfl (by rw [Bool.false_and, Bool.false_and])
    | true =>
      refine bF rfl ?_
      rw [Bool.true_and]
      refine bB (v := !(c && pb)) ?_ ?_
      · refine bB eS (bB (p_integer_Mod _ _ (by omega) (by omega) (by omega) (by omega)) (bB eC ?_))
        cases c with
        | false => exact bT rfl rfl
        | true => exact bF rfl (bB (p_integer_Floor _ _ (by omega) (by omega) (by omega) (by omega)) (bB eD (bB eP rfl)))
      · cases hcp : (c && pb) with
        | false => exact bT rfl rfl
        | true =>
          refine bF rfl ?_
          rw [Bool.true_and]
          cases hps : r.ps with
          | nil => exact bT rfl rfl
          | cons z t =>
            rw [← hps]
            refine bF (eF (by rw [hps, List.length_cons]; omega)) (bB epl (bB ecb ?_))
            rw [if_neg (by rw [hps]; simp)]
theorem p_Matches_bad {r : Rec} {start l : Int} (h : (vldB r && locB start) = false) : m_recurrence_Matches std r.f r.N r.c r.u r.w start l r.mo r.md r.yd r.wk r.dy r.h r.m r.s r.ps = some (false, 1) := by
  rw [m_recurrence_Matches_eq, p_given, h]; rfl
theorem p_Matches_far {r : Rec} {start l : Int} (h : (vldB r && locB start) = true) (hl : locB l = false) : m_recurrence_Matches std r.f r.N r.c r.u r.w start l r.mo r.md r.yd r.wk r.dy r.h r.m r.s r.ps = some (false, 2) := by
  rw [m_recurrence_Matches_eq, p_given, h, p_recurrence_local, hl]; rfl
theorem q_awake : m_law29_awake std = some true := by kernel_rfl
end Go.Proofs.Ytmnhfaaaaejpaaa.R
