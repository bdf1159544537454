/-
  granule.Near and common periods, the plain law; lists of some of the granules.
-/
import Derived.Test.YtoklfjkanipjkaaPGrp2
namespace Go.Proofs.Ytoklfjkanipjkaa
open Go.RowKit

/-! the last granule that begins at a number or before it -/
theorem lastTo_spec {l : List Sp} {r : Int} (h0 : fr l 0 ≤ r) : ∀ n, 0 < n → fr l (lastTo l r n) ≤ r ∧ ∀ j, lastTo l r n < j → j < n → r < fr l j := by
  intro n
  induction n with
  | zero => intro h; omega
  | succ n ih =>
    intro _
    rw [lastTo_step]
    by_cases h : fr l n ≤ r
    · rw [if_pos h]
      exact ⟨h, fun j h1 h2 => by omega⟩
    · rw [if_neg h]
      rcases Nat.eq_zero_or_pos n with h1 | h1
      · subst h1; exact absurd h0 h
      · obtain ⟨a, b⟩ := ih h1
        refine ⟨a, fun j h2 h3 => ?_⟩
        by_cases hj : j = n
        · subst hj; omega
        · exact b j h2 (by omega)
theorem nearN_spec {o p x : Int} {l : List Sp} (hv : Vd o p l) : atF o p l (nearN o p l x) ≤ x ∧ x < atF o p l (nearN o p l x + 1) := by
  have h0 := hv.n0
  have hp := hv.p1
  have hr := div_bd (a := x - o) hp
  have hq := Int.emod_add_mul_ediv (x - o) p
  obtain ⟨a, b⟩ := lastTo_spec (l := l) (r := (x - o) % p) (by rw [hv.f0]; exact hr.1) l.length h0
  have ht := lastTo_lt (l := l) (r := (x - o) % p) l.length h0
  obtain ⟨_, _, e1, _⟩ := at_mk o p ((x - o) / p) ht
  have e2 := at_next hv ((x - o) / p) ht
  unfold nearN
  rw [e1, e2]
  refine ⟨by omega, ?_⟩
  unfold nextAt
  by_cases h : lastTo l ((x - o) % p) l.length + 1 < l.length
  · rw [if_pos h]
    have := b _ (by omega) h
    omega
  · rw [if_neg h]; omega
theorem near_le {o p x k : Int} {l : List Sp} (hv : Vd o p l) : atF o p l k ≤ x ↔ k ≤ nearN o p l x := by
  obtain ⟨a, b⟩ := nearN_spec (x := x) hv
  refine ⟨fun h => ?_, fun h => ?_⟩
  · rcases Int.lt_or_le (nearN o p l x) k with h1 | h1
    · have := at_mono' hv (show nearN o p l x + 1 ≤ k by omega); omega
    · exact h1
  · have := at_mono' hv h; omega
theorem search_ok {o p : Int} {l : List Sp} (hv : Vd o p l) (r : Int) (hr : 0 ≤ r) :
    m_sort_Search std ((l.length : Nat) : Int) o p r l = some ((lastTo l r l.length + 1 : Nat) : Int) := by
  have h0 := hv.n0
  have h5 := hv.n5
  obtain ⟨a, b⟩ := lastTo_spec (l := l) (r := r) (by rw [hv.f0]; exact hr) l.length h0
  have ht := lastTo_lt (l := l) (r := r) l.length h0
  rw [m_sort_Search_eq]
  obtain ⟨e, he, hR⟩ := loop_is (B := m_sort_Search_L1 std o p r l) (fun y => ∃ i j : Nat, y = ((i : Int), (j : Int)) ∧ i ≤ lastTo l r l.length + 1 ∧ lastTo l r l.length + 1 ≤ j ∧ j ≤ l.length) (fun y => (y.2 - y.1).toNat) (fun e => e = ((lastTo l r l.length + 1 : Nat) : Int)) (y := (0, (l.length : Int))) ⟨0, l.length, rfl, by omega, by omega, by omega⟩ (by simp only []; omega) (by
    rintro y ⟨i, j, rfl, h1, h2, h3⟩
    rw [m_sort_Search_L1_eq]
    by_cases hij : i < j
    · obtain ⟨c, hc⟩ : ∃ c : Nat, c = (i + j) / 2 := ⟨_, rfl⟩
      have e1 : ((i : Int) + (j : Int)) / 2 ^ (Int.toNat 1) = (c : Int) := by
        have : (2 : Int) ^ (Int.toNat 1) = 2 := rfl
        rw [this]; omega
      have hcl : c < l.length := by omega
      rw [e1]
      have hN : m_granule_Near_1 std (c : Int) o p r l = some (decide (r < fr l c)) := by
        rw [m_granule_Near_1_eq]
        simp only [Int.toNat_natCast, fr_def]
        exact gX (by omega) (gK (by omega) rfl)
      by_cases hf : r < fr l c
      · have hct : lastTo l r l.length + 1 ≤ c := by
          rcases Nat.lt_or_ge c (lastTo l r l.length + 1) with h4 | h4
          · have := (asc_mono hv.asc (lastTo l r l.length) c (by omega) ht).1; omega
          · exact h4
        refine ⟨.inl ((i : Int), (c : Int)), bT (dT (by omega)) (gI (by omega) (gU (by omega) (gX (by omega) (gI (by omega) (bB hN (bB (v := ((i : Int), (c : Int))) (bF (nF (dT hf)) rfl) rfl)))))), ⟨⟨i, c, rfl, h1, hct, by omega⟩, by simp only []; omega⟩⟩
      · have hct : c ≤ lastTo l r l.length := by
          rcases Nat.lt_or_ge (lastTo l r l.length) c with h4 | h4
          · have := b c h4 hcl; omega
          · exact h4
        refine ⟨.inl (((c + 1 : Nat) : Int), (j : Int)), bT (dT (by omega)) (gI (by omega) (gU (by omega) (gX (by omega) (gI (by omega) (bB hN (bB (v := (((c + 1 : Nat) : Int), (j : Int))) (bT (nT (dF hf)) (gI (by omega) rfl)) rfl)))))), ⟨⟨c + 1, j, rfl, by omega, h2, h3⟩, by simp only []; omega⟩⟩
    · refine ⟨.inr (i : Int), bF (dF (by omega)) rfl, ?_⟩
      show (i : Int) = _
      omega)
  rw [he, hR]; rfl
theorem p_granule_Near {o p x : Int} {l : List Sp} (hv : Vd o p l) (hl : lineB x = true) : m_granule_Near std o p x l = some (nearN o p l x) := by
  have h0 := hv.n0
  have h5 := hv.n5
  have hx := lineB_iff.1 hl
  have o1 := hv.o1
  have o2 := hv.o2
  have p1 := hv.p1
  have p2 := hv.p2
  obtain ⟨b1, b2, b3, b4, b5, b6, b7⟩ := near_q (x := x) hv (by omega) (by omega)
  have hsm := mul_small (q := (x - o) / p) h0 h5 p1 (by omega) (by omega)
  have ht := lastTo_lt (l := l) (r := (x - o) % p) l.length h0
  rw [m_granule_Near_eq, p_granule_Valid o p l (by omega), hv.back]
  refine bB (v := false) (bB rfl (bF rfl (bB (p_granule_line _) (by rw [hl]; rfl)))) (bF rfl (gI (by omega) (bB (p_integer_Floor _ _ (by omega) (by omega) (by omega) (by omega)) (gI (by omega) (gI (by omega) ?_)))))
  rw [b5]
  refine bB (search_ok hv _ b6) (gI (by omega) (gI (by omega) (gI (by omega) (congrArg some ?_))))
  unfold nearN
  omega

/-! common periods -/
def comP (a b : Int) : Int := a * ((b.toNat / Nat.gcd a.toNat b.toNat : Nat) : Int)
theorem comP_parts {a b : Int} (ha : 1 ≤ a) (hb : 1 ≤ b) : ∃ g : Nat, 1 ≤ g ∧ Nat.gcd a.toNat b.toNat = g ∧ (g : Int) ≤ a ∧ (g : Int) ≤ b ∧ a = ((a.toNat / g : Nat) : Int) * g ∧ b = ((b.toNat / g : Nat) : Int) * g ∧ 1 ≤ a.toNat / g ∧ 1 ≤ b.toNat / g ∧
    comP a b = a * ((b.toNat / g : Nat) : Int) ∧ comP a b = ((a.toNat / g : Nat) : Int) * b := by
  have hg := Nat.gcd_pos_of_pos_left b.toNat (show 0 < a.toNat by omega)
  have h1 := Nat.gcd_dvd_left a.toNat b.toNat
  have h2 := Nat.gcd_dvd_right a.toNat b.toNat
  have l1 := Nat.gcd_le_left b.toNat (show 0 < a.toNat by omega)
  have l2 := Nat.gcd_le_right a.toNat (show 0 < b.toNat by omega)
  have e1 : a = ((a.toNat / Nat.gcd a.toNat b.toNat : Nat) : Int) * (Nat.gcd a.toNat b.toNat : Nat) := by
    rw [← Int.natCast_mul, Nat.div_mul_cancel h1]; omega
  have e2 : b = ((b.toNat / Nat.gcd a.toNat b.toNat : Nat) : Int) * (Nat.gcd a.toNat b.toNat : Nat) := by
    rw [← Int.natCast_mul, Nat.div_mul_cancel h2]; omega
  refine ⟨_, hg, rfl, by omega, by omega, e1, e2, Nat.div_pos l1 hg, Nat.div_pos l2 hg, rfl, ?_⟩
  unfold comP
  have e3 : ∀ x y g' : Int, a = x * g' → b = y * g' → a * y = x * b := fun x y g' u1 u2 => by
    rw [u1, u2, Int.mul_assoc, Int.mul_comm g' y]
  exact e3 _ _ _ e1 e2
theorem p_group_common {a b : Int} (ha : 1 ≤ a) (ha2 : a ≤ 12622780800) (hb : 1 ≤ b) (hb2 : b ≤ 12622780800) : m_group_common std a b = some (if comP a b ≤ 12622780800 then (comP a b, 0) else (0, 9)) := by
  obtain ⟨g, g1, hg, g2, g3, e1, e2, q1, q2, c1, c2⟩ := comP_parts ha hb
  have hd : Int.tdiv b (g : Int) = ((b.toNat / g : Nat) : Int) := by
    have : b = ((b.toNat : Nat) : Int) := by omega
    rw [this, nat_tdiv]; simp
  have hG : m_integer_Gcd std a b = some (g : Int) := by
    have := p_integer_Gcd a.toNat b.toNat (by omega) (by omega) (by omega)
    rw [show ((a.toNat : Nat) : Int) = a by omega, show ((b.toNat : Nat) : Int) = b by omega, hg] at this
    exact this
  have hq : ((b.toNat / g : Nat) : Int) ≤ b := by have := Nat.div_le_self b.toNat g; omega
  have hM : m_integer_Mul std a ((b.toNat / g : Nat) : Int) = some (bif fits (comP a b) then (comP a b, 0) else (0, 9)) := by
    unfold m_integer_Mul
    have f1 : fits a = true := by simp [fits]; omega
    have f2 : fits ((b.toNat / g : Nat) : Int) = true := by simp only [fits, Bool.and_eq_true, decide_eq_true_eq]; omega
    rw [f1, f2, c1]; rfl
  have hL : m_integer_Lcm std a b = some (bif fits (comP a b) then (comP a b, 0) else (0, 9)) := by
    rw [m_integer_Lcm_eq]
    refine bB (v := false) (bF (dF (by omega)) (congrArg some (dF (by omega)))) (bF rfl (bB hG (gZ (by omega) ?_)))
    rw [hd]
    exact gI (by omega) (bB hM rfl)
  have hc0 : 0 ≤ comP a b := by rw [c1]; exact Int.mul_nonneg (by omega) (by omega)
  rw [m_group_common_eq, hL]
  by_cases hc : comP a b ≤ 12622780800
  · rw [if_pos hc]
    have hf : fits (comP a b) = true := by simp [fits]; omega
    rw [hf]
    exact bB rfl (bB (v := false) (bF (nF (eT rfl)) (congrArg some (dF (show ¬ 12622780800 < comP a b by omega)))) (bF rfl rfl))
  · rw [if_neg hc]
    cases hf : fits (comP a b) with
    | true => exact bB rfl (bB (v := true) (bF (nF (eT rfl)) (congrArg some (dT (show 12622780800 < comP a b by omega)))) (bT rfl rfl))
    | false => exact bB rfl (bB (v := true) (bT rfl rfl) (bT rfl rfl))
theorem p_ref16_common {a b : Int} (ha : 1 ≤ a) (ha2 : a ≤ 12622780800) (hb : 1 ≤ b) (hb2 : b ≤ 12622780800) : m_ref16_common std a b = some (if comP a b ≤ 12622780800 then (comP a b, 0) else (0, 9)) := by
  obtain ⟨g, g1, hg, g2, g3, e1, e2, q1, q2, c1, c2⟩ := comP_parts ha hb
  have hd : Int.tdiv a (g : Int) = ((a.toNat / g : Nat) : Int) := by
    have : a = ((a.toNat : Nat) : Int) := by omega
    rw [this, nat_tdiv]; simp
  have hG : m_ref01_Gcd std a b = some (g : Int) := by
    have := p_ref01_Gcd a.toNat b.toNat (by omega) (by omega) (by omega)
    rw [show ((a.toNat : Nat) : Int) = a by omega, show ((b.toNat : Nat) : Int) = b by omega, hg] at this
    exact this
  have hq : ((a.toNat / g : Nat) : Int) ≤ a := by have := Nat.div_le_self a.toNat g; omega
  have hM : Int.tdiv 12622780800 b = 12622780800 / b := Int.tdiv_eq_ediv_of_nonneg (by omega)
  have hMb : 0 ≤ 12622780800 / b ∧ 12622780800 / b ≤ 12622780800 := ⟨Int.ediv_nonneg (by omega) (by omega), Int.ediv_le_self _ (by omega)⟩
  have hiff : 12622780800 / b < ((a.toNat / g : Nat) : Int) ↔ ¬ comP a b ≤ 12622780800 := by
    rw [Int.ediv_lt_iff_lt_mul (by omega), c2]; omega
  rw [m_ref16_common_eq]
  refine bB hG (gZ (by omega) ?_)
  rw [hd, hM]
  refine gI (by omega) (gZ (by omega) (gI (by omega) ?_))
  by_cases hc : comP a b ≤ 12622780800
  · rw [if_pos hc]
    have hc0 : 0 ≤ comP a b := by rw [c2]; exact Int.mul_nonneg (by omega) (by omega)
    refine bF (dF (by rw [hiff]; omega)) ?_
    rw [← c2]
    exact gI (by omega) rfl
  · rw [if_neg hc]
    exact bT (dT (hiff.2 hc)) rfl
/-- how often a period fits into the common one -/
theorem com_quo {a b : Int} (ha : 1 ≤ a) (hb : 1 ≤ b) : Int.tdiv (comP a b) b = ((a.toNat / Nat.gcd a.toNat b.toNat : Nat) : Int) ∧ Int.tdiv (comP a b) a = ((b.toNat / Nat.gcd a.toNat b.toNat : Nat) : Int) := by
  obtain ⟨g, g1, hg, g2, g3, e1, e2, q1, q2, c1, c2⟩ := comP_parts ha hb
  rw [hg]
  refine ⟨?_, ?_⟩
  · rw [c2]; exact Int.mul_tdiv_cancel _ (by omega)
  · rw [c1]; exact Int.mul_tdiv_cancel_left _ (by omega)

/-! some of the granules -/
def fo (n : Nat) (f : Nat → Option Sp) : List Sp := (List.range n).filterMap f
theorem fo_succ (n : Nat) (f : Nat → Option Sp) : fo (n + 1) f = fo n f ++ (f n).toList := by
  unfold fo
  rw [List.range_succ, List.filterMap_append]
  congr 1
theorem fo_len (n : Nat) (f : Nat → Option Sp) : (fo n f).length ≤ n := by
  have := List.length_filterMap_le f (List.range n)
  rw [List.length_range] at this
  exact this
theorem fo_mem {n : Nat} {f : Nat → Option Sp} {x : Sp} (h : x ∈ fo n f) : ∃ k, k < n ∧ f k = some x := by
  simpa [fo] using h
theorem PL.of_pw {p lo hi : Int} {l : List Sp} (h0 : 0 < l.length) (h5 : l.length ≤ 5000) (hp1 : 1 ≤ p) (hp2 : p ≤ 12622780800) (hpw : l.Pairwise fun a b => a.2 ≤ b.1) (hb : ∀ x ∈ l, lo ≤ x.1 ∧ x.1 < x.2 ∧ x.2 ≤ hi) (hfit : hi - lo ≤ p)
    (b1 : -4611686018427387904 ≤ lo) (b2 : hi ≤ 4611686018427387904) : PL p l := by
  have hm : ∀ k, k < l.length → lo ≤ fr l k ∧ fr l k < tt l k ∧ tt l k ≤ hi := fun k hk => by
    have := hb l[k] (List.getElem_mem hk)
    rw [list_fr l hk] at this
    exact this
  have a0 := hm 0 h0
  have a1 := hm (l.length - 1) (by omega)
  refine ⟨h0, h5, hp1, hp2, fun k hk => (hm k hk).2.1, fun k hk => ?_, by omega, by omega, by omega⟩
  have := List.pairwise_iff_getElem.1 hpw k (k + 1) (by omega) hk (by omega)
  rw [list_fr l (show k < l.length by omega), list_fr l hk] at this
  exact this
/-- what lies in parts that lie one behind the other -/
theorem fo_PL {n : Nat} {f : Nat → Option Sp} {sF sT : Nat → Int} {p : Int} (h0 : 0 < (fo n f).length) (h5 : n ≤ 5000) (hp1 : 1 ≤ p) (hp2 : p ≤ 12622780800)
    (hf : ∀ k x, k < n → f k = some x → sF k ≤ x.1 ∧ x.1 < x.2 ∧ x.2 ≤ sT k) (hs : ∀ j k, j < k → k < n → sT j ≤ sF k) (hi : ∀ k, k < n → sF 0 ≤ sF k ∧ sT k ≤ sF 0 + p) (b1 : -4611686018427387904 ≤ sF 0) (b2 : sF 0 ≤ 4611686000000000000) : PL p (fo n f) := by
  have hl := fo_len n f
  refine PL.of_pw (lo := sF 0) (hi := sF 0 + p) h0 (by omega) hp1 hp2 ?_ (fun x hx => ?_) (by omega) b1 (by omega)
  · refine (List.pairwise_filterMap).2 ?_
    refine List.Pairwise.imp_of_mem (S := fun j k => ∀ x, f j = some x → ∀ y, f k = some y → x.2 ≤ y.1) (R := fun j k => j < k) ?_ List.pairwise_lt_range
    intro j k hj hk hjk x hx y hy
    have h1 := hf j x (List.mem_range.1 hj) hx
    have h2 := hf k y (List.mem_range.1 hk) hy
    have h3 := hs j k hjk (List.mem_range.1 hk)
    omega
  · obtain ⟨k, hk, hfk⟩ := fo_mem hx
    have h1 := hf k x hk hfk
    have h2 := hi k hk
    omega
end Go.Proofs.Ytoklfjkanipjkaa
