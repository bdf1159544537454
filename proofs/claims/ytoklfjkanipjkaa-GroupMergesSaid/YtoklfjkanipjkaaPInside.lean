/-
  GroupInside, the plain law.
-/
import Derived.Test.YtoklfjkanipjkaaPNear
import Derived.Test.YtoklfjkanipjkaaPCustoms
namespace Go.Proofs.Ytoklfjkanipjkaa
open Go.RowKit

theorem p_law16_great_2 (o p o' p' : Int) (l l' : List Sp) : m_law16_great_2 std o p o' p' l l' = some (decide (40 < l.length) || decide (40 < l'.length)) := by
  rw [m_law16_great_2_eq, m_slices_ContainsFunc_4_eq, m_slices_IndexFunc_4_eq, m_law16_great_1_eq, m_law16_great_1_eq]
  simp only [Option.bind_some]
  by_cases h : 40 < l.length
  · rw [dT (show (40 : Int) < (l.length : Int) by omega), dT h]; rfl
  · rw [dF (show ¬ (40 : Int) < (l.length : Int) by omega), dF h]
    by_cases h' : 40 < l'.length
    · rw [dT (show (40 : Int) < (l'.length : Int) by omega), dT h']; rfl
    · rw [dF (show ¬ (40 : Int) < (l'.length : Int) by omega), dF h']; rfl

/-! bounds -/
theorem mul_5000 {n : Nat} {q A : Int} (h5 : n ≤ 5000) (hA : 0 ≤ A) (h1 : -A ≤ q) (h2 : q ≤ A) : -(5000 * A) ≤ (n : Int) * q ∧ (n : Int) * q ≤ 5000 * A := by
  have a1 : (n : Int) * q ≤ (n : Int) * A := Int.mul_le_mul_of_nonneg_left h2 (by omega)
  have a2 : (n : Int) * (-A) ≤ (n : Int) * q := Int.mul_le_mul_of_nonneg_left h1 (by omega)
  have a3 : (n : Int) * A ≤ 5000 * A := Int.mul_le_mul_of_nonneg_right (by omega) hA
  rw [Int.mul_neg] at a2
  omega
theorem near_bds {o p x : Int} {l : List Sp} (hv : Vd o p l) (h1 : -4398046511104 ≤ x) (h2 : x ≤ 4398046511104) : -32985348833285000 ≤ nearN o p l x ∧ nearN o p l x ≤ 32985348833290000 := by
  obtain ⟨b1, b2, b3, b4, b5, b6, b7⟩ := near_q (x := x) hv h1 h2
  have h := mul_5000 (q := (x - o) / p) hv.n5 (A := 6597069766656) (by omega) b1 b2
  have ht := lastTo_lt (l := l) (r := (x - o) % p) l.length hv.n0
  have := hv.n5
  unfold nearN
  omega
/-- a place by its period -/
theorem ok_q {p q k : Int} {l : List Sp} (h0 : 0 < l.length) (h5 : l.length ≤ 5000) (hq1 : -6597069766658 ≤ q) (hq2 : q ≤ 6597069766658) (hb1 : -26000000000000 ≤ p * q) (hb2 : p * q ≤ 26000000000000) (h1 : (l.length : Int) * q ≤ k) (h2 : k < (l.length : Int) * (q + 1)) : AtOk p l k := by
  have h := mul_5000 (q := q) h5 (A := 6597069766658) (by omega) hq1 hq2
  have e : k / (l.length : Int) = q := by
    have e1 : k = (k - (l.length : Int) * q) + (l.length : Int) * q := by omega
    rw [Int.mul_add] at h2
    rw [e1, Int.add_mul_ediv_left _ _ (by omega), Int.ediv_eq_zero_of_lt (by omega) (by omega)]; omega
  rw [Int.mul_add] at h2
  exact ⟨by omega, by omega, by rw [e]; omega, by rw [e]; omega⟩
theorem near_ok {o p x : Int} {l : List Sp} (hv : Vd o p l) (h1 : -4398046511104 ≤ x) (h2 : x ≤ 4398046511104) : AtOk p l (nearN o p l x) := by
  obtain ⟨b1, b2, b3, b4, b5, b6, b7⟩ := near_q (x := x) hv h1 h2
  have ht := lastTo_lt (l := l) (r := (x - o) % p) l.length hv.n0
  have p1 := hv.p1
  have p2 := hv.p2
  refine ok_q (q := (x - o) / p) hv.n0 hv.n5 (by omega) (by omega) (by omega) (by omega) ?_ ?_
  · unfold nearN; omega
  · unfold nearN; rw [Int.mul_add]; omega
theorem at_monoT {o p : Int} {l : List Sp} (hv : Vd o p l) {a b : Int} (h : a ≤ b) : atT o p l a ≤ atT o p l b := by
  by_cases e : a = b
  · subst e; exact Int.le_refl _
  · have h1 := at_lt hv a
    have h2 := at_mono' hv (show a + 1 ≤ b by omega)
    have h3 := at_lt hv b
    omega
theorem at_step {o p : Int} {l : List Sp} (hv : Vd o p l) (a : Int) : ∀ j : Nat, atF o p l a + j ≤ atF o p l (a + j) := by
  intro j
  induction j with
  | zero => simp
  | succ j ih =>
    have h := at_lt hv (a + j)
    have e : a + ((j + 1 : Nat) : Int) = a + j + 1 := by omega
    rw [e]
    omega

/-! the granules inside of a span -/
def inLo (o p : Int) (l : List Sp) (s : Int) : Int := nearN o p l (s - 1) + 1
def inHi (o p : Int) (l : List Sp) (t : Int) : Int := if t < atT o p l (nearN o p l (t - 1)) then nearN o p l (t - 1) - 1 else nearN o p l (t - 1)
def inK (o p : Int) (l : List Sp) (m s t : Int) : Option Int :=
  if 0 < m ∧ m ≤ inHi o p l t - inLo o p l s + 1 then some (inLo o p l s + m - 1)
  else if m < 0 ∧ -(inHi o p l t - inLo o p l s + 1) ≤ m then some (inHi o p l t + m + 1) else none
theorem in_lo {o p s q : Int} {l : List Sp} (hv : Vd o p l) : s ≤ atF o p l q ↔ inLo o p l s ≤ q := by
  have := near_le (x := s - 1) (k := q) hv
  unfold inLo
  omega
theorem in_hi {o p t q : Int} {l : List Sp} (hv : Vd o p l) : atT o p l q ≤ t ↔ q ≤ inHi o p l t := by
  have h1 := near_le (x := t - 1) (k := q) hv
  have h2 := at_lt hv q
  have h3 := at_lt hv (nearN o p l (t - 1))
  have h4 := (near_le (x := t - 1) (k := nearN o p l (t - 1)) hv).2 (Int.le_refl _)
  unfold inHi
  by_cases h : t < atT o p l (nearN o p l (t - 1))
  · rw [if_pos h]
    refine ⟨fun h5 => ?_, fun h5 => ?_⟩
    · have h6 := h1.1 (by omega)
      by_cases e : q = nearN o p l (t - 1)
      · rw [e] at h5; omega
      · omega
    · have := at_mono' hv (show q + 1 ≤ nearN o p l (t - 1) by omega); omega
  · rw [if_neg h]
    refine ⟨fun h5 => h1.1 (by omega), fun h5 => ?_⟩
    have := at_monoT hv h5; omega
theorem inHi_le {o p : Int} {l : List Sp} (t : Int) : inHi o p l t ≤ nearN o p l (t - 1) := by unfold inHi; split <;> omega
theorem inK_in {o p m s t q : Int} {l : List Sp} (h : inK o p l m s t = some q) : inLo o p l s ≤ q ∧ q ≤ inHi o p l t := by
  unfold inK at h
  split at h
  · injection h with h; omega
  · split at h
    · injection h with h; omega
    · cases h
def inF (co cp io ip m : Int) (cl il : List Sp) (k : Nat) : Option Sp := (inK co cp cl m (atF io ip il k) (atT io ip il k)).map fun q => (atF co cp cl q, atT co cp cl q)
/-- a span near the line -/
structure SpOk (s t : Int) : Prop where
  s1 : -4398046511103 ≤ s
  st : s < t
  t2 : t ≤ 4398046511104

section
variable {co cp io ip m : Int} {cl il : List Sp}
theorem p_Inside_1 (hc : Vd co cp cl) (hi : Vd io ip il) {k : Nat} (hk : AtOk ip il k) (hs : SpOk (atF io ip il k) (atT io ip il k)) :
    m_group_Inside_1 std (k : Int) io ip co cp m il cl = some (match inF co cp io ip m cl il k with | some x => (x.1, x.2, true) | none => (0, 0, false)) := by
  obtain ⟨s, hs'⟩ : ∃ s, atF io ip il k = s := ⟨_, rfl⟩
  obtain ⟨t, ht'⟩ : ∃ t, atT io ip il k = t := ⟨_, rfl⟩
  obtain ⟨s1, s2, s3⟩ := hs
  have hF : inF co cp io ip m cl il k = (inK co cp cl m s t).map fun q => (atF co cp cl q, atT co cp cl q) := by unfold inF; rw [hs', ht']
  have hat := p_group_at hi hk
  rw [hs', ht'] at hat
  rw [hs', ht'] at s2
  rw [hs'] at s1
  rw [ht'] at s3
  clear hs' ht'
  have n1 := near_bds (x := s - 1) hc (by omega) (by omega)
  have n2 := near_bds (x := t - 1) hc (by omega) (by omega)
  have k1 := near_ok (x := s - 1) hc (by omega) (by omega)
  have k2 := near_ok (x := t - 1) hc (by omega) (by omega)
  have hle := inHi_le (o := co) (p := cp) (l := cl) t
  have hge : nearN co cp cl (t - 1) - 1 ≤ inHi co cp cl t := by unfold inHi; split <;> omega
  have hlo : inLo co cp cl s = nearN co cp cl (s - 1) + 1 := rfl
  have hok : ∀ q, inLo co cp cl s ≤ q → q ≤ inHi co cp cl t → AtOk cp cl q := fun q h1 h2 => AtOk.mid k1 k2 hc.p1 hc.n0 (by omega) (by omega)
  rw [m_group_Inside_1_eq, hF]
  refine bB hat (gI (by omega) (gI (by omega) (bB (p_granule_Near hc (lineB_iff.2 (by omega))) (gI (by omega) (bB (p_granule_Near hc (lineB_iff.2 (by omega))) (bB (p_group_at hc k2) (bB (v := inHi co cp cl t) ?_ ?_)))))))
  · unfold inHi
    by_cases h : t < atT co cp cl (nearN co cp cl (t - 1))
    · rw [if_pos h]; exact bT (dT h) (gI (by omega) rfl)
    · rw [if_neg h]; exact bF (dF h) rfl
  rw [← hlo]
  refine gI (by omega) (gI (by omega) ?_)
  unfold inK
  by_cases h1 : 0 < m
  · by_cases h2 : m ≤ inHi co cp cl t - inLo co cp cl s + 1
    · rw [if_pos ⟨h1, h2⟩]
      exact bB (v := true) (bT (dT h1) (congrArg some (dT h2))) (bB (v := .inl (atF co cp cl (inLo co cp cl s + m - 1), atT co cp cl (inLo co cp cl s + m - 1))) (bT rfl (gI (by omega) (gI (by omega) (bB (p_group_at hc (hok _ (by omega) (by omega))) rfl)))) rfl)
    · rw [if_neg (fun h => h2 h.2), if_neg (fun h => by omega)]
      exact bB (v := false) (bT (dT h1) (congrArg some (dF h2))) (bB (v := .inr ()) (bF rfl (bB (v := false) (bF (dF (by omega)) rfl) rfl)) rfl)
  · rw [if_neg (fun h => h1 h.1)]
    refine bB (v := false) (bF (dF h1) rfl) ?_
    by_cases h3 : m < 0
    · by_cases h2 : -(inHi co cp cl t - inLo co cp cl s + 1) ≤ m
      · rw [if_pos ⟨h3, h2⟩]
        exact bB (v := .inl (atF co cp cl (inHi co cp cl t + m + 1), atT co cp cl (inHi co cp cl t + m + 1))) (bF rfl (bB (v := true) (bT (dT h3) (gI (by omega) (congrArg some (dT (by omega))))) (bT rfl (gI (by omega) (gI (by omega) (bB (p_group_at hc (hok _ (by omega) (by omega))) rfl)))))) rfl
      · rw [if_neg (fun h => h2 h.2)]
        exact bB (v := .inr ()) (bF rfl (bB (v := false) (bT (dT h3) (gI (by omega) (congrArg some (dF (by omega))))) rfl)) rfl
    · rw [if_neg (fun h => h3 h.1)]
      exact bB (v := .inr ()) (bF rfl (bB (v := false) (bF (dF h3) rfl) rfl)) rfl

def inn (o p : Int) (l : List Sp) (s : Int) (r : Nat) : Sp := (atF o p l (inLo o p l s + r), atT o p l (inLo o p l s + r))
def innL (o p : Int) (l : List Sp) (s t : Int) : List Sp := gl (inHi o p l t - inLo o p l s + 1).toNat (inn o p l s)
theorem p_ref16_within (hc : Vd co cp cl) {s t : Int} (hs : SpOk s t) (hst : t - s ≤ 12622780800) : m_ref16_within std co cp s t cl = some (innL co cp cl s t) := by
  obtain ⟨s1, s2, s3⟩ := hs
  have h0 := hc.n0
  have h5 := hc.n5
  have o1 := hc.o1
  have o2 := hc.o2
  have p1 := hc.p1
  have p2 := hc.p2
  obtain ⟨b1, b2, b3, b4, b5, b6, b7⟩ := near_q (x := s) hc (by omega) (by omega)
  obtain ⟨d1, d2, d3, d4, d5, d6, d7⟩ := near_q (x := t - 1) hc (by omega) (by omega)
  have n1 := near_bds (x := s - 1) hc (by omega) (by omega)
  have n2 := near_bds (x := t - 1) hc (by omega) (by omega)
  have hsm := mul_5000 (q := (s - co) / cp - 1) h5 (A := 6597069766658) (by omega) (by omega) (by omega)
  have hlo : inLo co cp cl s = nearN co cp cl (s - 1) + 1 := rfl
  have hle := inHi_le (o := co) (p := cp) (l := cl) t
  -- where the search begins
  obtain ⟨k0, hk0⟩ : ∃ k0, (cl.length : Int) * ((s - co) / cp - 1) = k0 := ⟨_, rfl⟩
  have okA : AtOk cp cl k0 := by
    refine ok_q (q := (s - co) / cp - 1) h0 h5 (by omega) (by omega) ?_ ?_ (by omega) (by rw [← hk0, Int.mul_add]; omega)
    · rw [Int.mul_sub]; omega
    · rw [Int.mul_sub]; omega
  have okB : AtOk cp cl (nearN co cp cl (t - 1) + 1) := by
    have ht := lastTo_lt (l := cl) (r := (t - 1 - co) % cp) cl.length h0
    have okC : AtOk cp cl ((cl.length : Int) * ((t - 1 - co) / cp + 1)) := by
      refine ok_q (q := (t - 1 - co) / cp + 1) h0 h5 (by omega) (by omega) ?_ ?_ (Int.le_refl _) (by rw [Int.mul_add (cl.length : Int) ((t - 1 - co) / cp + 1)]; omega)
      · rw [Int.mul_add]; omega
      · rw [Int.mul_add]; omega
    refine AtOk.mid (near_ok (x := t - 1) hc (by omega) (by omega)) okC p1 h0 (by omega) ?_
    unfold nearN
    rw [Int.mul_add]
    omega
  have hkF : atF co cp cl k0 ≤ s - 1 := by
    have e := (at_mk co cp ((s - co) / cp - 1) h0).2.2.1
    rw [hc.f0, Int.natCast_zero, Int.add_zero, hk0, Int.mul_sub] at e
    omega
  have hk1 := (near_le hc).1 hkF
  have hk2 : nearN co cp cl (s - 1) ≤ nearN co cp cl (t - 1) := (near_le hc).1 (by have := (nearN_spec (x := s - 1) hc).1; omega)
  have hmany : nearN co cp cl (t - 1) - inLo co cp cl s ≤ 12622780800 := by
    rcases Int.lt_or_le (nearN co cp cl (t - 1)) (inLo co cp cl s) with h | h
    · omega
    · have e1 := at_step hc (inLo co cp cl s) (nearN co cp cl (t - 1) - inLo co cp cl s).toNat
      have e2 : inLo co cp cl s + (((nearN co cp cl (t - 1) - inLo co cp cl s).toNat : Nat) : Int) = nearN co cp cl (t - 1) := by omega
      rw [e2] at e1
      have e3 := (in_lo (s := s) (q := inLo co cp cl s) hc).2 (Int.le_refl _)
      have e4 := (nearN_spec (x := t - 1) hc).1
      omega
  have hoks : ∀ k, k0 ≤ k → k ≤ nearN co cp cl (t - 1) + 1 → AtOk cp cl k := fun k h1 h2 => AtOk.mid okA okB p1 h0 h1 h2
  rw [m_ref16_within_eq]
  refine gI (by omega) (bB (p_ref01_Floor _ _ (by omega) (by omega) (by omega) (by omega)) (gI (by omega) (gI (by omega) ?_)))
  rw [hk0]
  have hk0b := hsm
  rw [hk0] at hk0b
  let cnt : Int → Nat := fun k => (min k (inHi co cp cl t + 1) - inLo co cp cl s).toNat
  have c0 : cnt k0 = 0 := by simp only [cnt]; omega
  have cR : cnt (nearN co cp cl (t - 1) + 1) = (inHi co cp cl t - inLo co cp cl s + 1).toNat := by simp only [cnt]; omega
  obtain ⟨R, hR⟩ : ∃ R : Nat, (R : Int) = nearN co cp cl (t - 1) + 1 - k0 := ⟨(nearN co cp cl (t - 1) + 1 - k0).toNat, by omega⟩
  have hL := loop_to' (B := m_ref16_within_L1 std co cp cl s t) (n := R) (fun i => (k0 + (i : Int), gl (cnt (k0 + i)) (inn co cp cl s))) (e := innL co cp cl s t) (by omega) (fun i hi => ?_) ?_
  · rw [Int.natCast_zero, Int.add_zero, c0, gl_zero] at hL
    exact bB hL rfl
  · obtain ⟨k, hk⟩ : ∃ k, k0 + (i : Int) = k := ⟨_, rfl⟩
    have e1 : k0 + ((i + 1 : Nat) : Int) = k + 1 := by omega
    rw [hk, e1, m_ref16_within_L1_eq]
    have okk := hoks k (by omega) (by omega)
    have hlt := (near_le (x := t - 1) (k := k) hc).2 (by omega)
    have c1 := in_lo (s := s) (q := k) hc
    have c2 := in_hi (t := t) (q := k) hc
    have hcnt : cnt k ≤ 12622780801 := by simp only [cnt]; omega
    refine bB (p_ref16_Granule hc okk) (bT (dT (by omega)) (bB (p_ref16_Granule hc okk) (bB (v := decide (inLo co cp cl s ≤ k ∧ k ≤ inHi co cp cl t)) ?_ (bB (v := gl (cnt (k + 1)) (inn co cp cl s)) ?_ (gI (by omega) rfl)))))
    · by_cases h1 : s ≤ atF co cp cl k
      · refine bT (dT h1) (congrArg some ?_)
        by_cases h2 : atT co cp cl k ≤ t
        · rw [dT h2]; exact (dT ⟨c1.1 h1, c2.1 h2⟩).symm
        · rw [dF h2]; exact (dF fun h => h2 (c2.2 h.2)).symm
      · exact bF (dF h1) (congrArg some (dF fun h => h1 (c1.2 h.1)).symm)
    · by_cases h : inLo co cp cl s ≤ k ∧ k ≤ inHi co cp cl t
      · have g1 : cnt (k + 1) = cnt k + 1 := by simp only [cnt]; omega
        have g2 : inLo co cp cl s + ((cnt k : Nat) : Int) = k := by simp only [cnt]; omega
        rw [g1, gl_succ]
        refine bT (dT h) (gR (by rw [gl_len]; omega) (gR (by simp) ?_))
        unfold inn
        rw [g2]
      · have g1 : cnt (k + 1) = cnt k := by simp only [cnt]; omega
        rw [g1]
        exact bF (dF h) rfl
  · have e1 : k0 + (R : Int) = nearN co cp cl (t - 1) + 1 := by omega
    rw [e1, cR, m_ref16_within_L1_eq]
    have hN := (near_le (x := t - 1) (k := nearN co cp cl (t - 1) + 1) hc)
    exact bB (p_ref16_Granule hc okB) (bF (dF (by omega)) rfl)

/-- how many granules are asked -/
def inN (cp ip : Int) (il : List Sp) : Nat := il.length * (cp.toNat / Nat.gcd cp.toNat ip.toNat)
structure InOk (co cp io ip : Int) (cl il : List Sp) : Prop where
  hc : Vd co cp cl
  hi : Vd io ip il
  hM : comP cp ip ≤ 12622780800
  n5 : inN cp ip il ≤ 5000
theorem in_sp (hc : Vd co cp cl) (hi : Vd io ip il) {k : Nat} (hk : k < inN cp ip il) : io ≤ atF io ip il k ∧ atF io ip il k < atT io ip il k ∧ atT io ip il k ≤ io + comP cp ip ∧ atT io ip il k - atF io ip il k ≤ ip := by
  obtain ⟨g, g1, hg, g2, g3, e1, e2, q1, q2, c1, c2⟩ := comP_parts hc.p1 hi.p1
  have h1 := at_mono' hi (show (0 : Int) ≤ (k : Int) by omega)
  rw [(at_zero hi).1] at h1
  have h2 := at_lt hi (k : Int)
  have h3 := at_mono' hi (show (k : Int) + 1 ≤ ((inN cp ip il : Nat) : Int) by omega)
  have h4 := (at_add io ip hi.n0 0 ((cp.toNat / Nat.gcd cp.toNat ip.toNat : Nat) : Int)).1
  rw [(at_zero hi).1, Int.zero_add, ← Int.natCast_mul, Int.mul_comm ip] at h4
  have h5 := at_len hi (k : Int)
  rw [hg] at h4
  rw [c2]
  unfold inN at h3
  rw [hg] at h3
  omega
theorem InOk.sp (h : InOk co cp io ip cl il) {k : Nat} (hk : k < inN cp ip il) : AtOk ip il k ∧ SpOk (atF io ip il k) (atT io ip il k) ∧ atT io ip il k - atF io ip il k ≤ 12622780800 := by
  have h1 := in_sp h.hc h.hi hk
  have o1 := h.hi.o1
  have o2 := h.hi.o2
  have p2 := h.hi.p2
  have hM := h.hM
  have h5 := h.n5
  exact ⟨AtOk.base h.hi (by omega) (by omega), ⟨by omega, by omega, by omega⟩, by omega⟩
theorem InOk.PL (h : InOk co cp io ip cl il) (h0 : 0 < (fo (inN cp ip il) (inF co cp io ip m cl il)).length) : PL (comP cp ip) (fo (inN cp ip il) (inF co cp io ip m cl il)) := by
  have hN : 0 < inN cp ip il := by have := fo_len (inN cp ip il) (inF co cp io ip m cl il); omega
  obtain ⟨g, g1, hg, g2, g3, e1, e2, q1, q2, c1, c2⟩ := comP_parts h.hc.p1 h.hi.p1
  have hp1 : 1 ≤ comP cp ip := by
    rw [c1]
    have := Int.mul_le_mul_of_nonneg_left (show (1 : Int) ≤ ((ip.toNat / g : Nat) : Int) by omega) (show 0 ≤ cp by have := h.hc.p1; omega)
    have := h.hc.p1
    omega
  have z := (at_zero h.hi).1
  have o1 := h.hi.o1
  have o2 := h.hi.o2
  refine fo_PL (sF := fun k => atF io ip il k) (sT := fun k => atT io ip il k) h0 h.n5 hp1 h.hM (fun k x hk hx => ?_) (fun j k hjk hk => ?_) (fun k hk => ?_) ?_ ?_
  · unfold inF at hx
    cases hq : inK co cp cl m (atF io ip il k) (atT io ip il k) with
    | none => rw [hq] at hx; cases hx
    | some q =>
      rw [hq] at hx
      injection hx with hx
      subst hx
      have h1 := inK_in hq
      exact ⟨(in_lo h.hc).2 h1.1, (at_lt h.hc q).1, (in_hi h.hc).2 h1.2⟩
  · have h1 := (at_lt h.hi j).2
    have h2 := at_mono' h.hi (show (j : Int) + 1 ≤ (k : Int) by omega)
    exact Int.le_trans h1 h2
  · have h1 := in_sp h.hc h.hi hk
    simp only [Int.natCast_zero, z]
    omega
  · simp only [Int.natCast_zero, z]; omega
  · simp only [Int.natCast_zero, z]; omega
theorem p_collect_Inside (h : InOk co cp io ip cl il) : m_group_collect_5 std (comP cp ip) ((inN cp ip il : Nat) : Int) io ip co cp m il cl =
    some (if (fo (inN cp ip il) (inF co cp io ip m cl il)).length = 0 then (0, 0, [], 7) else mkR (comP cp ip) (fo (inN cp ip il) (inF co cp io ip m cl il))) := by
  have h5 := h.n5
  rw [m_group_collect_5_eq]
  refine bB (loop_to' (n := inN cp ip il) (fun i => ((i : Int), fo i (inF co cp io ip m cl il))) (e := fo (inN cp ip il) (inF co cp io ip m cl il)) (by omega) (fun i hi => ?_) ?_) ?_
  · obtain ⟨hk, hs, _⟩ := h.sp hi
    have h1 := p_Inside_1 (m := m) h.hc h.hi hk hs
    have hlen := fo_len i (inF co cp io ip m cl il)
    rw [m_group_collect_5_L1_eq]
    cases hf : inF co cp io ip m cl il i with
    | none =>
      rw [hf] at h1
      exact bT (dT (by omega)) (bB h1 (bB (v := fo (i + 1) (inF co cp io ip m cl il)) (bF rfl (congrArg some (by rw [fo_succ, hf]; simp))) (gI (by omega) rfl)))
    | some x =>
      rw [hf] at h1
      exact bT (dT (by omega)) (bB h1 (bB (v := fo (i + 1) (inF co cp io ip m cl il)) (bT rfl (gR (by omega) (gR (by simp) (congrArg some (by rw [fo_succ, hf]; rfl))))) (gI (by omega) rfl)))
  · rw [m_group_collect_5_L1_eq]; exact bF (dF (by omega)) rfl
  · by_cases h0 : (fo (inN cp ip il) (inF co cp io ip m cl il)).length = 0
    · rw [if_pos h0]; exact bT (eT (by omega)) rfl
    · rw [if_neg h0]; exact bF (eF (by omega)) (bB (p_group_made (h.PL (by omega))) rfl)
theorem p_ref_Inside_L1 (h : InOk co cp io ip cl il) {i : Nat} (hi : i < inN cp ip il) :
    m_ref16_Inside_L1 std co cp cl io ip il (comP cp ip) m ((i : Int), fo i (inF co cp io ip m cl il)) = some (.inl (((i + 1 : Nat) : Int), fo (i + 1) (inF co cp io ip m cl il))) := by
  have h5 := h.n5
  obtain ⟨g, g1, hg, g2, g3, e1, e2, q1, q2, c1, c2⟩ := comP_parts h.hc.p1 h.hi.p1
  have hq := (com_quo h.hc.p1 h.hi.p1).1
  obtain ⟨hk, hs, hst⟩ := h.sp hi
  have hlen := fo_len i (inF co cp io ip m cl il)
  have hip := h.hi.p1
  have hcp := h.hc.p1
  have hcp2 := h.hc.p2
  have hu : ((cp.toNat / Nat.gcd cp.toNat ip.toNat : Nat) : Int) ≤ cp := by have := Nat.div_le_self cp.toNat (Nat.gcd cp.toNat ip.toNat); omega
  have z1 := nn (cp.toNat / Nat.gcd cp.toNat ip.toNat)
  have z2 := nn (ip.toNat / Nat.gcd cp.toNat ip.toNat)
  have hn : ((il.length : Nat) : Int) * ((cp.toNat / Nat.gcd cp.toNat ip.toNat : Nat) : Int) = ((inN cp ip il : Nat) : Int) := by unfold inN; rw [Int.natCast_mul]
  have hW := p_ref16_within h.hc hs hst
  obtain ⟨s, hs'⟩ : ∃ s, atF io ip il i = s := ⟨_, rfl⟩
  obtain ⟨t, ht'⟩ : ∃ t, atT io ip il i = t := ⟨_, rfl⟩
  have hF : inF co cp io ip m cl il i = (inK co cp cl m s t).map fun q => (atF co cp cl q, atT co cp cl q) := by unfold inF; rw [hs', ht']
  have hG := p_ref16_Granule h.hi hk
  rw [hs', ht'] at hW hG
  have hWl : (innL co cp cl s t).length = (inHi co cp cl t - inLo co cp cl s + 1).toNat := gl_len _ _
  have hx : ∀ (r : Nat) (q : Int), q = inLo co cp cl s + r → q ≤ inHi co cp cl t → fr (innL co cp cl s t) r = atF co cp cl q ∧ tt (innL co cp cl s t) r = atT co cp cl q := fun r q e1 e2 => by
    subst e1
    unfold innL
    rw [fr_gl (by omega), tt_gl (by omega)]
    exact ⟨rfl, rfl⟩
  have hmany : (inHi co cp cl t - inLo co cp cl s + 1).toNat ≤ 66000000000000000 := by
    obtain ⟨s1, s2, s3⟩ := hs
    rw [hs'] at s1
    rw [ht'] at s3
    have n1 := near_bds (x := s - 1) h.hc (by omega) (by omega)
    have n2 := near_bds (x := t - 1) h.hc (by omega) (by omega)
    have hle := inHi_le (o := co) (p := cp) (l := cl) t
    have hlo : inLo co cp cl s = nearN co cp cl (s - 1) + 1 := rfl
    omega
  rw [m_ref16_Inside_L1_eq, hq, hn, fo_succ, hF]
  refine gZ (by omega) (gI (by omega) (gI (by omega) (bT (dT (by omega)) (bB hG (bB hW ?_)))))
  simp only [fr_def, tt_def]
  unfold inK
  by_cases h1 : 0 < m
  · by_cases h2 : m ≤ inHi co cp cl t - inLo co cp cl s + 1
    · obtain ⟨x1, x2⟩ := hx (m - 1).toNat (inLo co cp cl s + m - 1) (by omega) (by omega)
      rw [if_pos ⟨h1, h2⟩, x1, x2]
      exact bB (v := true) (bT (dT h1) (congrArg some (dT (by omega)))) (bB (bT rfl (gI (by omega) (gX (by omega) (gK (by omega) (gR (by omega) (gR (by simp) rfl)))))) (bB (v := false) (bF (dF (by omega)) rfl) (bB (bF rfl rfl) (gI (by omega) rfl))))
    · rw [if_neg (fun h => h2 h.2), if_neg (fun h => by omega)]
      exact bB (v := false) (bT (dT h1) (congrArg some (dF (by omega)))) (bB (bF rfl rfl) (bB (v := false) (bF (dF (by omega)) rfl) (bB (bF rfl rfl) (gI (by omega) (by simp)))))
  · rw [if_neg (fun h => h1 h.1)]
    refine bB (v := false) (bF (dF h1) rfl) (bB (bF rfl rfl) ?_)
    by_cases h3 : m < 0
    · by_cases h2 : -(inHi co cp cl t - inLo co cp cl s + 1) ≤ m
      · obtain ⟨x1, x2⟩ := hx ((((innL co cp cl s t).length : Nat) : Int) + m).toNat (inHi co cp cl t + m + 1) (by omega) (by omega)
        rw [if_pos ⟨h3, h2⟩, x1, x2]
        exact bB (v := true) (bT (dT h3) (gI (by omega) (congrArg some (dT (by omega))))) (bB (bT rfl (gI (by omega) (gX (by omega) (gK (by omega) (gR (by omega) (gR (by simp) rfl)))))) (gI (by omega) rfl))
      · rw [if_neg (fun h => h2 h.2)]
        exact bB (v := false) (bT (dT h3) (gI (by omega) (congrArg some (dF (by omega))))) (bB (bF rfl rfl) (gI (by omega) (by simp)))
    · rw [if_neg (fun h => h3 h.1)]
      exact bB (v := false) (bF (dF h3) rfl) (bB (bF rfl rfl) (gI (by omega) (by simp)))

/-! the whole -/
theorem Inside_bad (h : validB co cp cl = false ∨ validB io ip il = false ∨ m = 0) (h1 : cl.length ≤ 5000) (h2 : il.length ≤ 5000) : m_group_Inside std co cp io ip m cl il = some (0, 0, [], 1) := by
  rw [m_group_Inside_eq, p_granule_Valid co cp cl (by omega)]
  refine bB (v := true) (bB rfl ?_) (bT rfl rfl)
  cases hv : validB co cp cl with
  | false => exact bT rfl rfl
  | true =>
    refine bF rfl (bB (p_granule_Valid io ip il (by omega)) ?_)
    cases hv2 : validB io ip il with
    | false => exact bT rfl rfl
    | true =>
      rcases h with h | h | h
      · rw [hv] at h; cases h
      · rw [hv2] at h; cases h
      · exact bF rfl (congrArg some (eT h))
theorem Inside_both (hc : Vd co cp cl) (hi : Vd io ip il) (hm : m ≠ 0) : ∃ a b x e, m_group_Inside std co cp io ip m cl il = some (a, b, x, e) ∧ m_ref16_Inside std co cp io ip m cl il = some (a, b, x, e) ∧
    ((∃ p l, PL p l ∧ (a, b, x, e) = mkR p l) ∨ (a = 0 ∧ b = 0 ∧ x = [] ∧ e ≠ 0)) := by
  have c5 := hc.n5
  have i5 := hi.n5
  have cp1 := hc.p1
  have cp2 := hc.p2
  have ip1 := hi.p1
  have ip2 := hi.p2
  have hV : (Option.bind (m_granule_Valid std co cp cl) fun b80 => bif (!b80) then (some true) else Option.bind (m_granule_Valid std io ip il) fun b81 => bif (!b81) then (some true) else (some (m == 0))) = some false := by
    refine bB (p_granule_Valid co cp cl (by omega)) (bF (nF hc.back) (bB (p_granule_Valid io ip il (by omega)) (bF (nF hi.back) (congrArg some (eF hm)))))
  have hu : ((cp.toNat / Nat.gcd cp.toNat ip.toNat : Nat) : Int) ≤ cp := by have := Nat.div_le_self cp.toNat (Nat.gcd cp.toNat ip.toNat); omega
  have z1 := nn (cp.toNat / Nat.gcd cp.toNat ip.toNat)
  have z2 := nn (ip.toNat / Nat.gcd cp.toNat ip.toNat)
  have hv : ((ip.toNat / Nat.gcd cp.toNat ip.toNat : Nat) : Int) ≤ ip := by have := Nat.div_le_self ip.toNat (Nat.gcd cp.toNat ip.toNat); omega
  have hq := com_quo cp1 ip1
  by_cases hM : comP cp ip ≤ 12622780800
  · have hn : ((il.length : Nat) : Int) * ((cp.toNat / Nat.gcd cp.toNat ip.toNat : Nat) : Int) = ((inN cp ip il : Nat) : Int) := by unfold inN; rw [Int.natCast_mul]
    obtain ⟨w, hw⟩ : ∃ w : Nat, ((cl.length : Nat) : Int) * ((ip.toNat / Nat.gcd cp.toNat ip.toNat : Nat) : Int) = (w : Int) := ⟨cl.length * (ip.toNat / Nat.gcd cp.toNat ip.toNat), by rw [Int.natCast_mul]⟩
    have hnb := mul_5000 (q := ((cp.toNat / Nat.gcd cp.toNat ip.toNat : Nat) : Int)) i5 (A := 12622780800) (by omega) (by omega) (by omega)
    have hwb := mul_5000 (q := ((ip.toNat / Nat.gcd cp.toNat ip.toNat : Nat) : Int)) c5 (A := 12622780800) (by omega) (by omega) (by omega)
    have hG := p_group_common cp1 cp2 ip1 ip2
    have hR := p_ref16_common cp1 cp2 ip1 ip2
    rw [if_pos hM] at hG hR
    by_cases hbig : 5000 < inN cp ip il ∨ 5000 < w
    · refine ⟨0, 0, [], 5, ?_, ?_, .inr ⟨rfl, rfl, rfl, by omega⟩⟩
      · rw [m_group_Inside_eq, hV, hG]
        simp only [Option.bind_some, hq.1, hq.2, hn, hw]
        refine bF rfl (bF rfl (gZ (by omega) (gI (by omega) (gI (by omega) (bB (v := true) ?_ (bT rfl rfl))))))
        by_cases h1 : 5000 < inN cp ip il
        · exact bT (dT (by omega)) rfl
        · exact bF (dF (by omega)) (gZ (by omega) (gI (by omega) (gI (by omega) (congrArg some (dT (by omega))))))
      · rw [m_ref16_Inside_eq, hR]
        simp only [Option.bind_some, hq.1, hq.2, hn, hw]
        refine bF (eF hm) (bF rfl (bB (v := true) ?_ (bT rfl rfl)))
        by_cases h1 : 5000 < w
        · exact bT (dT (by omega)) (gZ (by omega) (gI (by omega) (gI (by omega) rfl)))
        · exact bF (dF (by omega)) (gZ (by omega) (gI (by omega) (gI (by omega) (gZ (by omega) (gI (by omega) (gI (by omega) (congrArg some (dT (by omega)))))))))
    · have hok : InOk co cp io ip cl il := ⟨hc, hi, hM, by omega⟩
      obtain ⟨L, hL⟩ : ∃ L, fo (inN cp ip il) (inF co cp io ip m cl il) = L := ⟨_, rfl⟩
      have hcol := p_collect_Inside (m := m) hok
      have hPL := hok.PL (m := m)
      have hloop := loop_to' (B := m_ref16_Inside_L1 std co cp cl io ip il (comP cp ip) m) (n := inN cp ip il) (fun i => ((i : Int), fo i (inF co cp io ip m cl il))) (e := fo (inN cp ip il) (inF co cp io ip m cl il)) (by omega) (fun i hi => p_ref_Inside_L1 hok hi) (by
        rw [m_ref16_Inside_L1_eq, hq.1, hn]
        exact gZ (by omega) (gI (by omega) (gI (by omega) (bF (dF (by omega)) rfl))))
      rw [hL] at hcol hPL hloop
      have hA : m_group_Inside std co cp io ip m cl il = some (if L.length = 0 then (0, 0, [], 7) else mkR (comP cp ip) L) := by
        rw [m_group_Inside_eq, hV, hG]
        simp only [Option.bind_some, hq.1, hq.2, hn, hw]
        exact bF rfl (bF rfl (gZ (by omega) (gI (by omega) (gI (by omega) (bB (v := false) (bF (dF (by omega)) (gZ (by omega) (gI (by omega) (gI (by omega) (congrArg some (dF (by omega))))))) (bF rfl (bB hcol rfl)))))))
      have hB : m_ref16_Inside std co cp io ip m cl il = some (if L.length = 0 then (0, 0, [], 7) else mkR (comP cp ip) L) := by
        rw [m_ref16_Inside_eq, hR]
        simp only [Option.bind_some, hq.1, hq.2, hn, hw]
        refine bF (eF hm) (bF rfl (bB (v := false) (bF (dF (by omega)) (gZ (by omega) (gI (by omega) (gI (by omega) (gZ (by omega) (gI (by omega) (gI (by omega) (congrArg some (dF (by omega)))))))))) (bF rfl (bB hloop ?_))))
        by_cases h0 : L.length = 0
        · rw [if_pos h0]; exact bT (eT (by omega)) rfl
        · rw [if_neg h0]; exact bF (eF (by omega)) (bB (p_ref16_Make (hPL (by omega))) rfl)
      rw [hA, hB]
      by_cases h0 : L.length = 0
      · rw [if_pos h0]
        exact ⟨_, _, _, _, rfl, rfl, .inr ⟨rfl, rfl, rfl, by omega⟩⟩
      · rw [if_neg h0]
        exact ⟨_, _, _, _, rfl, rfl, .inl ⟨_, _, hPL (by omega), rfl⟩⟩
  · refine ⟨0, 0, [], 9, ?_, ?_, .inr ⟨rfl, rfl, rfl, by omega⟩⟩
    · rw [m_group_Inside_eq, hV, p_group_common cp1 cp2 ip1 ip2, if_neg hM]
      exact bB rfl (bF rfl (bB rfl (bT rfl rfl)))
    · rw [m_ref16_Inside_eq, p_ref16_common cp1 cp2 ip1 ip2, if_neg hM]
      exact bF (eF hm) (bB rfl (bT rfl rfl))
theorem p_few_L1 : ∀ (n a b : Nat), b < n → iter (m_law16_few_L1 std) n ((a : Int), (b : Int)) = some ((Nat.gcd b a : Nat) : Int) := by
  intro n
  induction n with
  | zero => intro a b h; omega
  | succ n ih =>
    intro a b h
    unfold iter
    rw [m_law16_few_L1_eq]
    rcases Nat.eq_zero_or_pos b with h0 | h0
    · subst h0
      simp
    · have h1 : (((b : Nat) : Int) == 0) = false := eF (by omega)
      have hz : okNz ((b : Nat) : Int) = true := dT (by omega)
      rw [gcd_step a b h0]
      simp only [h1, hz, grd, Bool.not_false, cond_true]
      rw [ih b (a % b) (by have := Nat.mod_lt a h0; omega), Nat.gcd_rec b a]
theorem p_few (hc : Vd co cp cl) (hi : Vd io ip il) : ∃ b, m_law16_few std co cp io ip cl il = some b := by
  have c5 := hc.n5
  have i5 := hi.n5
  have cp1 := hc.p1
  have cp2 := hc.p2
  have ip1 := hi.p1
  have ip2 := hi.p2
  have hl : loop (m_law16_few_L1 std) (cp, ip) = some ((Nat.gcd ip.toNat cp.toNat : Nat) : Int) := by
    have := p_few_L1 1180591620717411303424 cp.toNat ip.toNat (by omega)
    rw [show ((cp.toNat : Nat) : Int) = cp by omega, show ((ip.toNat : Nat) : Int) = ip by omega] at this
    exact this
  have hg := Nat.gcd_pos_of_pos_left cp.toNat (show 0 < ip.toNat by omega)
  obtain ⟨u, hu, hub⟩ : ∃ u : Nat, Int.tdiv cp ((Nat.gcd ip.toNat cp.toNat : Nat) : Int) = u ∧ u ≤ 12622780800 := ⟨cp.toNat / Nat.gcd ip.toNat cp.toNat, by rw [← nat_tdiv, show ((cp.toNat : Nat) : Int) = cp by omega], by have := Nat.div_le_self cp.toNat (Nat.gcd ip.toNat cp.toNat); omega⟩
  obtain ⟨v, hv, hvb⟩ : ∃ v : Nat, Int.tdiv ip ((Nat.gcd ip.toNat cp.toNat : Nat) : Int) = v ∧ v ≤ 12622780800 := ⟨ip.toNat / Nat.gcd ip.toNat cp.toNat, by rw [← nat_tdiv, show ((ip.toNat : Nat) : Int) = ip by omega], by have := Nat.div_le_self ip.toNat (Nat.gcd ip.toNat cp.toNat); omega⟩
  have hMb : 0 ≤ Int.tdiv 12622780800 ip ∧ Int.tdiv 12622780800 ip ≤ 12622780800 := by
    rw [Int.tdiv_eq_ediv_of_nonneg (by omega)]
    exact ⟨Int.ediv_nonneg (by omega) (by omega), Int.ediv_le_self _ (by omega)⟩
  have m1 := mul_5000 (q := (v : Int)) c5 (A := 12622780800) (by omega) (by omega) (by omega)
  have m2 := mul_5000 (q := (u : Int)) i5 (A := 12622780800) (by omega) (by omega) (by omega)
  rw [Int.mul_comm ((cl.length : Nat) : Int)] at m1
  rw [Int.mul_comm ((il.length : Nat) : Int)] at m2
  rw [m_law16_few_eq, hl]
  simp only [Option.bind_some, hu, hv]
  by_cases h1 : Int.tdiv 12622780800 ip < (u : Int)
  · exact ⟨true, gZ (by omega) (gI (by omega) (gZ (by omega) (gI (by omega) (bT (dT h1) rfl))))⟩
  · have : ∃ b, (bif (decide (((v : Int) * ((cl.length : Nat) : Int)) ≤ 400)) then
        bif (decide (((u : Int) * ((il.length : Nat) : Int)) ≤ 400)) then some true
        else bif (decide (5000 < ((v : Int) * ((cl.length : Nat) : Int)))) then some true else some (decide (5000 < ((u : Int) * ((il.length : Nat) : Int))))
      else bif (decide (5000 < ((v : Int) * ((cl.length : Nat) : Int)))) then some true else some (decide (5000 < ((u : Int) * ((il.length : Nat) : Int))))) = some b := by
      cases decide (((v : Int) * ((cl.length : Nat) : Int)) ≤ 400) <;> cases decide (((u : Int) * ((il.length : Nat) : Int)) ≤ 400) <;> cases decide (5000 < ((v : Int) * ((cl.length : Nat) : Int))) <;> exact ⟨_, rfl⟩
    obtain ⟨b, hb⟩ := this
    exact ⟨b, gZ (by omega) (gI (by omega) (gZ (by omega) (gI (by omega) (bF (dF h1) (gI (by omega) (gI (by omega) (gI (by omega) (bB hb rfl))))))))⟩
end
theorem pl_GroupInside (co cp io ip m : Int) (cl il : List Sp) : m_law16_GroupInside std co cp io ip m cl il = some true := by
  rw [m_law16_GroupInside_eq, awake16, p_law16_great_2]
  refine bB rfl (bF rfl (bB rfl ?_))
  by_cases g1 : 40 < cl.length
  · exact bT (by rw [dT g1]; rfl) rfl
  by_cases g2 : 40 < il.length
  · exact bT (by rw [dT g2]; simp) rfl
  refine bF (by rw [dF g1, dF g2]; rfl) ?_
  have hV1 := p_ref16_Valid co cp cl (by omega)
  have hV2 := p_ref16_Valid io ip il (by omega)
  cases hv1 : validB co cp cl with
  | false =>
    rw [hv1] at hV1
    exact bB (v := true) (bB hV1 (bT rfl rfl)) (bT rfl (bB (Inside_bad (.inl hv1) (by omega) (by omega)) (bB is_bad rfl)))
  | true =>
  cases hv2 : validB io ip il with
  | false =>
    rw [hv1] at hV1
    rw [hv2] at hV2
    exact bB (v := true) (bB hV1 (bF rfl (bB hV2 rfl))) (bT rfl (bB (Inside_bad (.inr (.inl hv2)) (by omega) (by omega)) (bB is_bad rfl)))
  | true =>
  rw [hv1] at hV1
  rw [hv2] at hV2
  refine bB (v := false) (bB hV1 (bF rfl (bB hV2 rfl))) (bF rfl ?_)
  have hc := Vd.of hv1
  have hi := Vd.of hv2
  obtain ⟨b, hb⟩ := p_few hc hi
  refine bB hb ?_
  cases b with
  | false => exact bT rfl rfl
  | true =>
  refine bF rfl ?_
  by_cases hm : m = 0
  · refine bB (Inside_bad (.inr (.inr hm)) (by omega) (by omega)) (bB (v := (0, 0, [], 1)) ?_ (bB is_bad rfl))
    rw [m_ref16_Inside_eq]
    exact bT (eT hm) rfl
  · obtain ⟨a, p, x, e, h1, h2, h3⟩ := Inside_both hc hi hm
    refine bB h1 (bB h2 (bB (v := true) ?_ rfl))
    rcases h3 with ⟨P, L, hP, he⟩ | ⟨rfl, rfl, rfl, he⟩
    · have := mkR_is hP
      rw [← he] at this
      exact this
    · exact is_err he
end Go.Proofs.Ytoklfjkanipjkaa
