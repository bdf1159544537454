/-
  Plain law: the granules of Months, Years, Weeks are the civil ones.
-/
import Derived.Test.YtnieceplfjmocaaCivFn
import Derived.Test.YtnieceplfjmocaaPer
import Derived.Test.YtnieceplfjmocaaAwake
namespace Go.Proofs.Ytnieceplfjmocaa

/-- the day on which a month begins, by its number from January 1970 on -/
def Mo (t : Int) : Int := dayN (1970 + t / 12) (t % 12 + 1) 1
theorem mo_parts (q : Int) {m : Int} (h1 : 1 ≤ m) (h2 : m ≤ 12) : Mo (12 * q + (m - 1)) = dayN (1970 + q) m 1 := by
  rw [Mo, show (12 * q + (m - 1)) / 12 = q by omega, show (12 * q + (m - 1)) % 12 + 1 = m by omega]
theorem mo_per (t : Int) : Mo (t + 4800) = Mo t + 146097 := by
  unfold Mo
  rw [show (t + 4800) / 12 = t / 12 + 400 by omega, show (t + 4800) % 12 = t % 12 by omega]
  unfold dayN dayB
  split <;> omega
theorem mo_zero : Mo 0 = 0 := by decide
theorem mo_year (t : Int) : 365 ≤ Mo (t + 12) - Mo t ∧ Mo (t + 12) - Mo t ≤ 366 := by
  unfold Mo
  rw [show (t + 12) / 12 = t / 12 + 1 by omega, show (t + 12) % 12 = t % 12 by omega]
  unfold dayN dayB
  split <;> omega
theorem mo_bd {t : Int} (h1 : -24000 ≤ t) (h2 : t ≤ 97000) : -800000 ≤ Mo t ∧ Mo t ≤ 3000000 := by
  unfold Mo dayN dayB
  split <;> omega
theorem leap_iff {y : Int} (hy : yearB y = true) : leapB y = true ↔ y % 4 = 0 ∧ (y % 100 ≠ 0 ∨ y % 400 = 0) := by
  simp [leapB, hy]
theorem day_next {y m : Int} (hy : yearB y = true) (h1 : 1 ≤ m) (h2 : m ≤ 12) : (if m = 12 then dayN (y + 1) 1 1 else dayN y (m + 1) 1) = dayN y m 1 + lenM y m := by
  have hl := leap_iff hy
  have hlen : lenM y m = if m = 2 ∧ leapB y = true then 29 else mtab m := by rw [lenM, if_neg (by simp [hy]; omega)]
  rw [hlen]
  clear hlen
  have : m = 1 ∨ m = 2 ∨ m = 3 ∨ m = 4 ∨ m = 5 ∨ m = 6 ∨ m = 7 ∨ m = 8 ∨ m = 9 ∨ m = 10 ∨ m = 11 ∨ m = 12 := by omega
  rcases this with h | h | h | h | h | h | h | h | h | h | h | h <;> subst h <;> simp [mtab, dayN, dayB]
  any_goals omega
  cases hb : leapB y with
  | true =>
    have := hl.1 hb
    simp
    omega
  | false =>
    have : ¬ (y % 4 = 0 ∧ (y % 100 ≠ 0 ∨ y % 400 = 0)) := fun h => by rw [hl.2 h] at hb; cases hb
    simp
    omega
theorem mo_succ {t : Int} (h : yearB (1970 + t / 12) = true) : Mo (t + 1) = Mo t + lenM (1970 + t / 12) (t % 12 + 1) := by
  have hn := day_next h (show 1 ≤ t % 12 + 1 by omega) (show t % 12 + 1 ≤ 12 by omega)
  have e : Mo t = dayN (1970 + t / 12) (t % 12 + 1) 1 := rfl
  rw [e, ← hn]
  split
  · rename_i h1
    have := mo_parts (t / 12 + 1) (m := 1) (by omega) (by omega)
    rw [show 12 * (t / 12 + 1) + (1 - 1) = t + 1 by omega] at this
    rw [this, show 1970 + (t / 12 + 1) = 1970 + t / 12 + 1 by omega]
  · rename_i h1
    have := mo_parts (t / 12) (m := t % 12 + 1 + 1) (by omega) (by omega)
    rw [show 12 * (t / 12) + (t % 12 + 1 + 1 - 1) = t + 1 by omega] at this
    exact this

theorem step_int {f : Int → Int} {m d : Int} (h : ∀ k, f (k + m) = f k + d) (s k : Int) : f (k + m * s) = f k + d * s := by
  have nat : ∀ (n : Nat) (k : Int), f (k + m * n) = f k + d * n := by
    intro n
    induction n with
    | zero => intro k; simp
    | succ n ih =>
      intro k
      have e : k + m * ((n + 1 : Nat) : Int) = (k + m * n) + m := by rw [Int.natCast_add, Int.mul_add]; simp; omega
      rw [e, h, ih, Int.natCast_add, Int.mul_add]; simp; omega
  cases s with
  | ofNat n => exact nat n k
  | negSucc n =>
    have := nat (n + 1) (k + m * Int.negSucc n)
    have e1 : k + m * Int.negSucc n + m * ((n + 1 : Nat) : Int) = k := by
      rw [Int.negSucc_eq, show ((n + 1 : Nat) : Int) = (n : Int) + 1 from rfl, Int.mul_neg]; omega
    rw [e1] at this
    rw [Int.negSucc_eq, Int.mul_neg, Int.mul_neg]
    rw [Int.negSucc_eq, Int.mul_neg] at this
    rw [show ((n + 1 : Nat) : Int) = (n : Int) + 1 from rfl] at this
    omega

/-- what Of makes of a list that begins at 0 has its granules -/
theorem of_at (o : Int) {p : Int} {l : List Sp} (h0 : 0 < l.length) (hf : fr l 0 = 0) (k : Int) : atF o (ofP p l) (ofL p l) k = atF o p l k ∧ atT o (ofP p l) (ofL p l) k = atT o p l k := by
  have hsh : shiftL l (fr l 0) = l := by rw [hf]; simp [shiftL]
  obtain ⟨m1, m2, m3, _⟩ := leastN_spec (p := p) h0
  have hM : ofM p l = leastN p l := by rw [ofM, hsh]
  obtain ⟨q, d, hq1, hq2, hq3, hq4, hq5, _⟩ := rep_spec m3 m1 m2
  obtain ⟨q', d', hq1', hq2', hq3', hstep⟩ := at_rep o m3 m1 m2
  have hqq : q' = q := by
    rw [hq1] at hq1'
    exact (Nat.eq_of_mul_eq_mul_right m1 hq1').symm
  subst hqq
  have hdd : d' = d := Int.eq_of_mul_eq_mul_left (by omega) (hq3'.symm.trans hq3)
  subst hdd
  have hP : ofP p l = d' := by
    unfold ofP
    have e : ((l.length : Int) / (ofM p l : Int)) = (q' : Int) := by rw [← hq5, hM]; simp
    rw [e, hq4]
  have hL : ofL p l = l.take (leastN p l) := by rw [ofL, hsh, hM]
  have hLl : (l.take (leastN p l)).length = leastN p l := by rw [List.length_take]; omega
  rw [hP, hL]
  obtain ⟨r, hr, hk⟩ := at_parts k (show 0 < (l.take (leastN p l)).length by omega)
  generalize k / ((l.take (leastN p l)).length : Int) = s at hk
  obtain ⟨_, _, e1, e2⟩ := at_mk o d' s hr
  rw [hLl] at hk hr e1 e2
  rw [hk, e1, e2, fr_take hr, tt_take hr]
  have g1 := step_int (f := atF o p l) (fun k => (hstep k).1) s r
  have g2 := step_int (f := atT o p l) (fun k => (hstep k).2) s r
  obtain ⟨_, _, b1, b2⟩ := at_mk o p 0 (show r < l.length by omega)
  have e0 : (l.length : Int) * 0 + (r : Int) = r := by omega
  rw [e0] at b1 b2
  have e3 : (leastN p l : Int) * s + (r : Int) = r + (leastN p l : Int) * s := by omega
  rw [e3, g1, g2, b1, b2]
  omega

theorem mon_psum : ∀ k, k ≤ 4800 → psum (monL 4800) k = Mo k := by
  intro k
  induction k with
  | zero => intro _; rw [psum_zero]; exact mo_zero.symm
  | succ k ih =>
    intro hk
    rw [psum_succ (by rw [monL_len]; omega), ih (by omega), iat_mon (by omega), monAt]
    have := mo_succ (t := k) (yearB_iff.2 (by omega))
    rw [show ((k + 1 : Nat) : Int) = (k : Int) + 1 from rfl, this]
    rw [show ((k / 12 : Nat) : Int) = (k : Int) / 12 by omega, show ((k % 12 : Nat) : Int) = (k : Int) % 12 by omega]
theorem mon_per : monP = 146097 := by
  have h := mon_psum 4800 (by omega)
  have h1 := mo_per 0
  rw [mo_zero] at h1
  exact h.trans h1
theorem mon_at (k : Int) : atF 0 (ofP monP monS) (ofL monP monS) k = Mo k ∧ atT 0 (ofP monP monS) (ofL monP monS) k = Mo (k + 1) := by
  have hf0 : fr monS 0 = 0 := (mon_fr 0 (by omega)).1
  obtain ⟨g1, g2⟩ := of_at 0 (p := monP) (l := monS) (by rw [mon_len]; omega) hf0 k
  rw [g1, g2]
  obtain ⟨r, hr, hk⟩ := at_parts k (show 0 < monS.length by rw [mon_len]; omega)
  generalize k / (monS.length : Int) = s at hk
  obtain ⟨_, _, e1, e2⟩ := at_mk 0 monP s hr
  rw [← hk] at e1 e2
  rw [mon_len] at hr hk
  rw [e1, e2, (mon_fr r hr).1, (mon_fr r hr).2, mon_psum r (by omega), mon_psum (r + 1) (by omega), mon_per]
  have h1 := step_int (f := Mo) mo_per s r
  have h2 := step_int (f := Mo) mo_per s (r + 1)
  rw [hk, show ((4800 : Nat) : Int) * s + (r : Int) = r + 4800 * s by omega, show (r : Int) + 4800 * s + 1 = r + 1 + 4800 * s by omega, h1, h2]
  rw [show ((r + 1 : Nat) : Int) = (r : Int) + 1 from rfl]
  omega

theorem psum_drop (l : List Int) (a b : Nat) : psum (l.drop a) b = psum l (a + b) - psum l a := by
  unfold psum
  rw [List.take_add, List.sum_append]; omega
theorem rot_psum {f : Nat} (hf : f ≤ 11) : ∀ j, j ≤ 4800 → psum (rotL f) j = Mo (f + j) - Mo f := by
  have hl := rotL_len f (by omega)
  intro j
  induction j with
  | zero => intro _; rw [psum_zero]; simp
  | succ j ih =>
    intro hj
    rw [psum_succ (by omega), ih (by omega)]
    have hi : iat (rotL f) j = Mo (f + j + 1) - Mo (f + j) := by
      by_cases h : j < 4800 - f
      · have e : iat (rotL f) j = monAt (f + j) := by
          rw [← iat_mon (n := 4800) (i := f + j) (by omega)]
          unfold iat rotL
          rw [List.getD_eq_getElem?_getD, List.getElem?_append_left (by rw [List.length_drop, monL_len]; omega), List.getElem?_drop, ← List.getD_eq_getElem?_getD]
        have := mo_succ (t := ((f + j : Nat) : Int)) (yearB_iff.2 (by omega))
        rw [e, monAt, show ((((f + j) / 12 : Nat)) : Int) = ((f + j : Nat) : Int) / 12 by omega, show ((((f + j) % 12 : Nat)) : Int) = ((f + j : Nat) : Int) % 12 by omega]
        rw [Int.natCast_add] at this ⊢
        omega
      · have e : iat (rotL f) j = monAt (f + j - 4800) := by
          rw [← iat_mon (n := 4800) (i := f + j - 4800) (by omega)]
          unfold iat rotL
          rw [List.getD_eq_getElem?_getD, List.getElem?_append_right (by rw [List.length_drop, monL_len]; omega), List.length_drop, monL_len, List.getElem?_take, if_pos (by omega), ← List.getD_eq_getElem?_getD]
          rw [show j - (4800 - f) = f + j - 4800 by omega]
        have := mo_succ (t := ((f + j - 4800 : Nat) : Int)) (yearB_iff.2 (by omega))
        rw [e, monAt, show ((((f + j - 4800) / 12 : Nat)) : Int) = ((f + j - 4800 : Nat) : Int) / 12 by omega, show ((((f + j - 4800) % 12 : Nat)) : Int) = ((f + j - 4800 : Nat) : Int) % 12 by omega]
        have h1 := mo_per ((f + j - 4800 : Nat) : Int)
        have h2 := mo_per (((f + j - 4800 : Nat) : Int) + 1)
        rw [show (((f + j - 4800 : Nat) : Int)) + 4800 = f + j by omega] at h1
        rw [show (((f + j - 4800 : Nat) : Int)) + 1 + 4800 = f + j + 1 by omega] at h2
        omega
    rw [hi, show ((j + 1 : Nat) : Int) = (j : Int) + 1 from rfl, show (f : Int) + ((j : Int) + 1) = f + j + 1 by omega]
    omega
theorem year_s {f i : Nat} (hf : f ≤ 11) (hi : i < 400) : yearS f i = Mo (f + 12 * (i + 1)) - Mo (f + 12 * i) := by
  rw [yearS, psum_drop, rot_psum hf _ (by omega), rot_psum hf _ (by omega)]
  rw [show (f : Int) + ((12 * i + 12 : Nat) : Int) = f + 12 * (i + 1) by omega, show (f : Int) + ((12 * i : Nat) : Int) = f + 12 * i by omega]
  omega
theorem iat_years {f n i : Nat} (h : i < n) : iat (yearsL f n) i = yearS f i := by
  simp [iat, yearsL, List.getD_eq_getElem?_getD, List.getElem?_map, List.getElem?_range h]
theorem years_psum {f : Nat} (hf : f ≤ 11) : ∀ i, i ≤ 400 → psum (yearsL f 400) i = Mo (f + 12 * i) - Mo f := by
  intro i
  induction i with
  | zero => intro _; rw [psum_zero]; simp
  | succ i ih =>
    intro hi
    rw [psum_succ (by rw [yearsL_len]; omega), ih (by omega), iat_years (by omega), year_s hf (by omega)]
    rw [show ((i + 1 : Nat) : Int) = (i : Int) + 1 from rfl]
    omega
theorem years_ok {f : Nat} (hf : f ≤ 11) : RowOk (yearsL f 400) := by
  refine ⟨by rw [yearsL_len]; omega, by rw [yearsL_len]; omega, fun k hk => ?_⟩
  rw [yearsL_len] at hk
  rw [iat_years hk, year_s hf hk]
  have := mo_year (f + 12 * k)
  rw [show (f : Int) + 12 * (k + 1) = f + 12 * k + 12 by omega]
  omega
theorem years_per {f : Nat} (hf : f ≤ 11) : psum (yearsL f 400) 400 = 146097 := by
  rw [years_psum hf 400 (Nat.le_refl _)]
  have := mo_per f
  rw [show (f : Int) + 12 * ((400 : Nat) : Int) = f + 4800 by omega]
  omega
def yeS (f : Nat) : List Sp := rowTo (yearsL f 400) 400
theorem years_at {f : Nat} (hf : f ≤ 11) (k : Int) : atF (Mo f) (ofP 146097 (yeS f)) (ofL 146097 (yeS f)) k = Mo (f + 12 * k) ∧ atT (Mo f) (ofP 146097 (yeS f)) (ofL 146097 (yeS f)) k = Mo (f + 12 * (k + 1)) := by
  have hlen : (yeS f).length = 400 := rowTo_len _ _
  have hf0 : fr (yeS f) 0 = 0 := by rw [yeS, fr_row (by omega)]; rfl
  obtain ⟨g1, g2⟩ := of_at (Mo f) (p := 146097) (l := yeS f) (by omega) hf0 k
  rw [g1, g2]
  obtain ⟨r, hr, hk⟩ := at_parts k (show 0 < (yeS f).length by omega)
  generalize k / ((yeS f).length : Int) = s at hk
  obtain ⟨_, _, e1, e2⟩ := at_mk (Mo f) 146097 s hr
  rw [← hk] at e1 e2
  rw [hlen] at hr hk
  rw [e1, e2, yeS, fr_row hr, tt_row hr, years_psum hf r (by omega), years_psum hf (r + 1) (by omega)]
  have h1 := step_int (f := Mo) mo_per s (f + 12 * r)
  have h2 := step_int (f := Mo) mo_per s (f + 12 * (r + 1))
  rw [hk, show (f : Int) + 12 * (((400 : Nat) : Int) * s + r) = f + 12 * r + 4800 * s by omega, show (f : Int) + 12 * (((400 : Nat) : Int) * s + r + 1) = f + 12 * (r + 1) + 4800 * s by omega, h1, h2]
  rw [show ((r + 1 : Nat) : Int) = (r : Int) + 1 from rfl]
  omega
end Go.Proofs.Ytnieceplfjmocaa
