/-
  RecurrenceIndices, RecurrenceDaily, RecurrenceYearly: the plain laws.
-/
import Derived.Test.YtmnhfaaaaejpaaaN1
namespace Go.Proofs.Ytmnhfaaaaejpaaa
open Go.RowKit

theorem pl_RecurrenceIndices (n o : Int) (h1 : -9223372036854775808 ≤ n) (h2 : n ≤ 9223372036854775807) (_g1 : -9223372036854775808 ≤ o) (g2 : o ≤ 9223372036854775807) : m_law29_RecurrenceIndices std n o = some true := by
  rw [m_law29_RecurrenceIndices_eq, m_recurrence_Position_eq]
  refine bB p_law29_awake (bF rfl ?_)
  by_cases a : 0 < n ∧ n ≤ o
  · refine bB (v := (n - 1, true)) (bB (v := true) (bT (dT a.1) (congrArg some (dT a.2))) (bB (v := .inl (n - 1)) (bT rfl (gI (by omega) rfl)) rfl)) ?_
    refine bB (v := true) (bT (dT a.1) (congrArg some (dT a.2))) (bB (v := .inl true) (bT rfl (bB (v := true) (bT rfl (gI (by omega) (congrArg some (eT rfl)))) rfl)) rfl)
  · have ea : (bif decide (0 < n) then some (decide (n ≤ o)) else some false) = some false := by
      by_cases b : 0 < n
      · exact bT (dT b) (congrArg some (dF fun h => a ⟨b, h⟩))
      · exact bF (dF b) rfl
    by_cases c : n < 0 ∧ 0 < o ∧ 0 - o ≤ n
    · have ec : (bif decide (n < 0) then bif decide (0 < o) then grd (okI .i64 (0 - o)) <| some (decide (0 - o ≤ n)) else some false else some false) = some true :=
        bT (dT c.1) (bT (dT c.2.1) (gI (by omega) (congrArg some (dT c.2.2))))
      refine bB (v := (o + n, true)) (bB ea (bB (v := .inl (o + n)) (bF rfl (bB ec (bT rfl (gI (by omega) rfl)))) rfl)) ?_
      exact bB ea (bB (v := .inl true) (bF rfl (bB ec (bT rfl (bB (v := true) (bT rfl (gI (by omega) (congrArg some (eT rfl)))) rfl)))) rfl)
    · have ec : (bif decide (n < 0) then bif decide (0 < o) then grd (okI .i64 (0 - o)) <| some (decide (0 - o ≤ n)) else some false else some false) = some false := by
        by_cases b : n < 0
        · refine bT (dT b) ?_
          by_cases d : 0 < o
          · exact bT (dT d) (gI (by omega) (congrArg some (dF fun h => c ⟨b, d, h⟩)))
          · exact bF (dF d) rfl
        · exact bF (dF b) rfl
      refine bB (v := (0, false)) (bB ea (bB (v := .inr ()) (bF rfl (bB ec (bF rfl rfl))) rfl)) ?_
      exact bB ea (bB (v := .inr ()) (bF rfl (bB ec (bF rfl rfl))) (bB (v := true) (bT rfl rfl) rfl))

theorem law_local {x : Int} : (bif decide (x < -62135596800) then some true else some (decide (253402300800 ≤ x))) = some (!locB x) := by
  unfold locB
  by_cases h : x < -62135596800
  · refine bT (dT h) (congrArg some ?_)
    rw [dF (show ¬ (-62135596800 ≤ x ∧ x < 253402300800) by omega)]; rfl
  · refine bF (dF h) (congrArg some ?_)
    by_cases g : 253402300800 ≤ x
    · rw [dT g, dF (show ¬ (-62135596800 ≤ x ∧ x < 253402300800) by omega)]; rfl
    · rw [dF g, dT (show -62135596800 ≤ x ∧ x < 253402300800 by omega)]; rfl

/-- the numbers of the periods of a rule without lists -/
def numF (f : Int) (y day : Int) : Int := if f = 1 then y else day
theorem p_number_nil (f : Int) (hf : f = 1 ∨ f = 4) {N l y m d : Int} (h1 : -62135596800 ≤ l) (h2 : l < 253402300800) (hD : m_civil_Date std (l / 86400) = some (y, m, d, 0)) :
    m_recurrence_number std f N 0 0 1 l [] [] [] [] [] [] [] [] [] = some (numF f y (l / 86400)) := by
  rw [m_recurrence_number_eq]
  refine bB (p_integer_Floor _ _ (by omega) (by omega) (by omega) (by omega)) ?_
  rcases hf with rfl | rfl
  · exact bB (v := .inr ()) (bF rfl (bB (v := .inr ()) rfl rfl)) (bB (v := false) rfl (bF rfl (bB hD (bT rfl rfl))))
  · exact bB (v := .inl (l / 86400)) (bF rfl (bB (v := .inl (l / 86400)) rfl rfl)) rfl
/-- what a rule without lists answers -/
def matN (f : Int) (N start l ys ms ds yl ml dl : Int) : Bool :=
  decide (start ≤ l) && ((Int.tmod (numF f yl (l / 86400) - numF f ys (start / 86400)) N == 0) && ((l % 86400 == start % 86400) && (if f = 1 then (dl == ds && ml == ms) else true)))
theorem p_Matches_nil (f : Int) (hf : f = 1 ∨ f = 4) {N start l ys ms ds yl ml dl : Int} (h1 : 1 ≤ N) (h2 : N ≤ 1000) (hs : locB start = true) (hl : locB l = true)
    (hS : m_civil_Date std (start / 86400) = some (ys, ms, ds, 0)) (iS : IsDate (start / 86400) ys ms ds) (hL : m_civil_Date std (l / 86400) = some (yl, ml, dl, 0)) (iL : IsDate (l / 86400) yl ml dl) :
    m_recurrence_Matches std f N 0 0 1 start l [] [] [] [] [] [] [] [] [] = some (matN f N start l ys ms ds yl ml dl, 0) := by
  have bs := locB_iff.1 hs
  have bl := locB_iff.1 hl
  have y1 := iS.y1
  have y2 := iS.y2
  have z1 := iL.y1
  have z2 := iL.y2
  rw [m_recurrence_Matches_eq]
  refine bB (p_given_nil f hf h1 h2 hs) (bF rfl (bB (by rw [p_recurrence_local, hl]) (bF rfl (bB (p_integer_Floor _ _ (by omega) (by omega) (by omega) (by omega)) ?_))))
  have hnb : -10000000 ≤ numF f yl (l / 86400) - numF f ys (start / 86400) ∧ numF f yl (l / 86400) - numF f ys (start / 86400) ≤ 10000000 := by
    unfold numF
    split <;> omega
  unfold matN
  by_cases c : l < start
  · rw [dF (show ¬ start ≤ l by omega)]
    exact bB (v := true) (bT (dT c) rfl) (bT rfl rfl)
  · rw [dT (show start ≤ l by omega), Bool.true_and]
    refine bB (v := !(Int.tmod (numF f yl (l / 86400) - numF f ys (start / 86400)) N == 0)) (bF (dF c) (bF rfl (bB (p_number_nil f hf bl.1 bl.2 hL) (bB (p_number_nil f hf bs.1 bs.2 hS) (gI (by omega) (gZ (by omega) rfl)))))) ?_
    cases (Int.tmod (numF f yl (l / 86400) - numF f ys (start / 86400)) N == 0) with
    | false => rfl
    | true =>
      refine bF rfl ?_
      rw [Bool.true_and]
      have ht := p_times_nil f hf (N := N) hs
      have hm := p_integer_Mod l 86400 (by omega) (by omega) (by omega) (by omega)
      have hc := p_contains_1 (l % 86400) (start % 86400)
      cases hh : (l % 86400 == start % 86400) with
      | false =>
        rw [hh] at hc
        exact bB (v := true) (bB ht (bB hm (bB hc (bT rfl rfl)))) (bT rfl rfl)
      | true =>
        rw [hh] at hc
        rw [Bool.true_and]
        refine bB (v := !(if f = 1 then (dl == ds && ml == ms) else true)) (bB ht (bB hm (bB hc (bF rfl (bB (p_integer_Floor start _ (by omega) (by omega) (by omega) (by omega)) (bB (p_recurrence_dateOf (by omega) (by omega) hS iS) (bB (p_passes_nil f hf (by omega) (by omega) hL iL _ _ _ _ _ _ _ _ (by omega) (by omega)) rfl))))))) ?_
        cases (if f = 1 then (dl == ds && ml == ms) else true) with
        | false => rfl
        | true => exact bF rfl (bT rfl rfl)
theorem p_Matches_far (f : Int) (hf : f = 1 ∨ f = 4) {N start l : Int} (h1 : 1 ≤ N) (h2 : N ≤ 1000) (hs : locB start = true) (hl : locB l = false) :
    m_recurrence_Matches std f N 0 0 1 start l [] [] [] [] [] [] [] [] [] = some (false, 2) := by
  rw [m_recurrence_Matches_eq]
  exact bB (p_given_nil f hf h1 h2 hs) (bF rfl (bB (by rw [p_recurrence_local, hl]) (bT rfl rfl)))

theorem pl_RecurrenceDaily (n start k off : Int) (n1 : 0 ≤ n) (n2 : n ≤ 255) (_s1 : -9223372036854775808 ≤ start) (_s2 : start ≤ 9223372036854775807) (_k1 : -9223372036854775808 ≤ k) (_k2 : k ≤ 9223372036854775807) (o1 : -32768 ≤ off) (o2 : off ≤ 32767) :
    m_law29_RecurrenceDaily std n start k off = some true := by
  rw [m_law29_RecurrenceDaily_eq]
  have hn : Int.tmod n 60 = n % 60 := Int.tmod_eq_emod_of_nonneg n1
  rw [hn]
  obtain ⟨N, hN⟩ : ∃ N, 1 + n % 60 = N := ⟨_, rfl⟩
  have N1 : 1 ≤ N := by omega
  have N2 : N ≤ 60 := by omega
  rw [hN]
  by_cases a : k < -3000000
  · exact bB (v := true) (bB p_law29_awake (bF rfl (bT (dT a) rfl))) (bT rfl (bB p_law29_awake rfl))
  by_cases b : 3000000 < k
  · exact bB (v := true) (bB p_law29_awake (bF rfl (bF (dF a) (congrArg some (dT b))))) (bT rfl (bB p_law29_awake rfl))
  refine bB (v := false) (bB p_law29_awake (bF rfl (bF (dF a) (congrArg some (dF b))))) (bF rfl (gI (by omega) (gZ (by omega) (gI (by omega) (bB law_local ?_)))))
  cases hs : locB start with
  | false => exact bT rfl rfl
  | true =>
    have bs := locB_iff.1 hs
    refine bF rfl (gI (by omega) (gI (by omega) (gI (by omega) (gI (by omega) ?_))))
    obtain ⟨l, hl0⟩ : ∃ l, start + k * 86400 + off = l := ⟨_, rfl⟩
    rw [hl0]
    cases hl : locB l with
    | false =>
      refine bB (p_Matches_far 4 (.inr rfl) N1 (by omega) hs hl) (bB (v := true) (by rw [law_local, hl]; rfl) (bT rfl (bB (v := true) (bT rfl rfl) rfl)))
    | true =>
      have bl := locB_iff.1 hl
      obtain ⟨ys, ms, ds, hS, iS⟩ := p_civil_Date (day := start / 86400) (by omega) (by omega)
      obtain ⟨yl, ml, dl, hL, iL⟩ := p_civil_Date (day := l / 86400) (by omega) (by omega)
      refine bB (p_Matches_nil 4 (.inr rfl) N1 (by omega) hs hl hS iS hL iL) (bB (v := false) (by rw [law_local, hl]; rfl) (bF rfl (bB (v := true) (bT rfl ?_) rfl)))
      unfold matN numF
      rw [if_neg (by decide), if_neg (by decide), if_neg (by decide), Bool.and_true]
      by_cases c : off = 0
      · subst c
        have e1 : l / 86400 - start / 86400 = k := by omega
        have e2 : l % 86400 = start % 86400 := by omega
        rw [e1, e2]
        refine bT rfl ?_
        by_cases d : 0 ≤ k
        · rw [dT (show start ≤ l by omega)]
          refine bT (dT d) (gZ (by omega) (congrArg some ?_))
          cases (Int.tmod k N == 0) <;> simp
        · rw [dF (show ¬ start ≤ l by omega)]
          exact bF (dF d) rfl
      · have e2 : (l % 86400 == start % 86400) = false := eF (by omega)
        rw [e2]
        refine bF (eF c) (congrArg some ?_)
        simp

theorem pl_RecurrenceYearly (n start l : Int) (n1 : 0 ≤ n) (n2 : n ≤ 255) : m_law29_RecurrenceYearly std n start l = some true := by
  rw [m_law29_RecurrenceYearly_eq]
  have hn : Int.tmod n 12 = n % 12 := Int.tmod_eq_emod_of_nonneg n1
  rw [hn]
  obtain ⟨N, hN⟩ : ∃ N, 1 + n % 12 = N := ⟨_, rfl⟩
  have N1 : 1 ≤ N := by omega
  have N2 : N ≤ 12 := by omega
  rw [hN]
  cases hs : locB start with
  | false => exact bB (v := true) (bB p_law29_awake (bF rfl (bB (by rw [p_ref29_Local, hs]) (bT rfl rfl)))) (bT rfl (bB p_law29_awake rfl))
  | true =>
    cases hl : locB l with
    | false => exact bB (v := true) (bB p_law29_awake (bF rfl (bB (by rw [p_ref29_Local, hs]) (bF rfl (bB (by rw [p_ref29_Local, hl]) rfl))))) (bT rfl (bB p_law29_awake rfl))
    | true =>
      have bs := locB_iff.1 hs
      have bl := locB_iff.1 hl
      obtain ⟨ys, ms, ds, hS, iS⟩ := p_civil_Date (day := start / 86400) (by omega) (by omega)
      obtain ⟨yl, ml, dl, hL, iL⟩ := p_civil_Date (day := l / 86400) (by omega) (by omega)
      have y1 := iS.y1
      have y2 := iS.y2
      have z1 := iL.y1
      have z2 := iL.y2
      refine bB (v := false) (bB p_law29_awake (bF rfl (bB (by rw [p_ref29_Local, hs]) (bF rfl (bB (by rw [p_ref29_Local, hl]) rfl))))) (bF rfl (gI (by omega) (gZ (by omega) (gI (by omega) ?_))))
      refine bB (p_Matches_nil 1 (.inl rfl) N1 (by omega) hs hl hS iS hL iL) (bB (p_integer_Floor start _ (by omega) (by omega) (by omega) (by omega)) (bB hS (bB (p_integer_Floor l _ (by omega) (by omega) (by omega) (by omega)) (bB hL (bB (v := false) (bF rfl (bF rfl rfl)) (bF rfl ?_))))))
      unfold matN numF
      rw [if_pos rfl, if_pos rfl, if_pos rfl]
      have hms := p_integer_Mod start 86400 (by omega) (by omega) (by omega) (by omega)
      have hml := p_integer_Mod l 86400 (by omega) (by omega) (by omega) (by omega)
      refine bB (v := (ms == ml) && ((ds == dl) && (start % 86400 == l % 86400))) ?_ (bB (v := true) ?_ rfl)
      · cases (ms == ml) with
        | false => rfl
        | true =>
          cases (ds == dl) with
          | false => rfl
          | true => exact bT rfl (bT rfl (bB hms (bB hml rfl)))
      · have s1 : (ml == ms) = (ms == ml) := by rw [Bool.eq_iff_iff, beq_iff_eq, beq_iff_eq]; exact eq_comm
        have s2 : (dl == ds) = (ds == dl) := by rw [Bool.eq_iff_iff, beq_iff_eq, beq_iff_eq]; exact eq_comm
        have s3 : (l % 86400 == start % 86400) = (start % 86400 == l % 86400) := by rw [Bool.eq_iff_iff, beq_iff_eq, beq_iff_eq]; exact eq_comm
        rw [s1, s2, s3]
        cases (ms == ml) with
        | false => refine bF rfl (congrArg some ?_); simp
        | true =>
          cases (ds == dl) with
          | false => refine bF rfl (congrArg some ?_); simp
          | true =>
            cases (start % 86400 == l % 86400) with
            | false => refine bF rfl (congrArg some ?_); simp
            | true =>
              refine bT rfl ?_
              by_cases c : start ≤ l
              · rw [dT c]
                refine bT rfl (gI (by omega) (gZ (by omega) (congrArg some ?_)))
                cases (Int.tmod (yl - ys) N == 0) <;> rfl
              · rw [dF c]
                exact bF rfl rfl
end Go.Proofs.Ytmnhfaaaaejpaaa
