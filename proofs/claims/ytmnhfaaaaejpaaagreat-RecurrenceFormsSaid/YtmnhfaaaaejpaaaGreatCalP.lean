/-
  Calendars: plain law (out of the walks of chapter 15). No program here.
-/
import Derived.Test.YtmnhfaaaaejpaaaGreatLift
namespace Go.Proofs.YtmnhfaaaaejpaaaGreat
open Go.RowKit

theorem tdiv_neg' (a b : Int) (ha : a < 0) (hb : 1 ≤ b) (hr : a.tmod b ≠ 0) : a.tdiv b - 1 = a / b := by
  rw [Int.tdiv_eq_ediv, if_neg]
  · have := Int.sign_eq_one_of_pos (by omega : 0 < b); omega
  · rintro (h | h)
    · omega
    · exact hr (Int.tmod_eq_zero_of_dvd h)
theorem tmod_neg' (a b : Int) (ha : a < 0) (hb : 1 ≤ b) (hr : a.tmod b ≠ 0) : a.tmod b + b = a % b := by
  have h1 := tdiv_neg' a b ha hb hr
  have h2 := Int.tmod_add_mul_tdiv a b
  have h3 := Int.emod_add_mul_ediv a b
  rw [← h1] at h3
  have h4 : b * (a.tdiv b - 1) = b * a.tdiv b - b := by rw [Int.mul_sub]; omega
  omega
theorem tdiv_zero' (a b : Int) (_hb : 1 ≤ b) (hr : a.tmod b = 0) : a.tdiv b = a / b := by
  rw [Int.tdiv_eq_ediv, if_pos (.inr (Int.dvd_of_tmod_eq_zero hr))]; omega
theorem tmod_zero' (a b : Int) (hr : a.tmod b = 0) : (0 : Int) = a % b := by
  have := Int.emod_eq_zero_of_dvd (Int.dvd_of_tmod_eq_zero hr); omega
theorem tmod_bd (a b : Int) (ha : a < 0) (hb : 1 ≤ b) : -b < a.tmod b ∧ a.tmod b ≤ 0 := by
  have h1 := Int.lt_tmod_of_pos a (by omega : 0 < b)
  have h2 : a.tmod b ≤ 0 := by
    have := Int.tmod_nonneg b (by omega : 0 ≤ -a)
    rw [Int.neg_tmod] at this; omega
  omega
theorem tdiv_bd (a b : Int) (ha : a < 0) (hb : 1 ≤ b) : a ≤ a.tdiv b ∧ a.tdiv b ≤ 0 := by
  have h0 : (-a).tdiv b = (-a) / b := Int.tdiv_eq_ediv_of_nonneg (by omega)
  have h1 : a.tdiv b = -((-a) / b) := by rw [← h0, Int.neg_tdiv]; omega
  have h2 : 0 ≤ (-a) / b := Int.ediv_nonneg (by omega) (by omega)
  have h3 : (-a) / b ≤ -a := Int.ediv_le_self _ (by omega)
  omega
theorem div_bd {a b : Int} (hb : 1 ≤ b) : 0 ≤ a % b ∧ a % b < b := ⟨Int.emod_nonneg _ (by omega), Int.emod_lt_of_pos _ (by omega)⟩
def lineB (x : Int) : Bool := decide (-4398046511104 ≤ x) && decide (x ≤ 4398046511104)
def halfB (x : Int) : Bool := decide (-2199023255552 ≤ x) && decide (x ≤ 2199023255552)
def ivB (a b : Int) : Bool := lineB a && (lineB b && decide (a < b))
theorem lineB_t {x : Int} (h : -4398046511104 ≤ x) : decide (x ≤ 4398046511104) = lineB x := by simp [lineB, h]
theorem lineB_f {x : Int} (h : x < -4398046511104) : false = lineB x := by simp [lineB]; omega
theorem lineB_iff {x : Int} : lineB x = true ↔ -4398046511104 ≤ x ∧ x ≤ 4398046511104 := by simp [lineB]
theorem halfB_t {x : Int} (h : -2199023255552 ≤ x) : decide (x ≤ 2199023255552) = halfB x := by simp [halfB, h]
theorem halfB_f {x : Int} (h : x < -2199023255552) : false = halfB x := by simp [halfB]; omega
theorem halfB_iff {x : Int} : halfB x = true ↔ -2199023255552 ≤ x ∧ x ≤ 2199023255552 := by simp [halfB]
theorem ivB_iff {a b : Int} : ivB a b = true ↔ -4398046511104 ≤ a ∧ a < b ∧ b ≤ 4398046511104 := by simp [ivB, lineB]; omega
/-- span k is valid, and begins where the one before ends, or later -/
def ascAt (l : List Sp) (k : Nat) : Bool := ivB (fr l k) (tt l k) && (k == 0 || decide (tt l (k - 1) ≤ fr l k))
def ascB (l : List Sp) : Bool := (List.range l.length).all (ascAt l) && decide (0 < l.length)
theorem ascB_false_at {l : List Sp} {k : Nat} (hk : k < l.length) (h : ascAt l k = false) : false = ascB l := by
  symm; simp only [ascB, Bool.and_eq_false_iff]; left
  rw [List.all_eq_false]; exact ⟨k, by simpa using hk, by simp [h]⟩
theorem ascB_all {l : List Sp} (h : ∀ j, j < l.length → ascAt l j = true) : decide (0 < l.length) = ascB l := by
  have : (List.range l.length).all (ascAt l) = true := by rw [List.all_eq_true]; intro j hj; exact h j (by simpa using hj)
  simp [ascB, this]
theorem ascB_iff {l : List Sp} : ascB l = true ↔ 0 < l.length ∧ ∀ j, j < l.length → ascAt l j = true := by
  constructor
  · intro h
    simp only [ascB, Bool.and_eq_true, decide_eq_true_eq, List.all_eq_true, List.mem_range] at h
    exact ⟨h.2, h.1⟩
  · intro ⟨h0, h⟩; rw [← ascB_all h]; simpa using h0
theorem asc_ne {l : List Sp} (h : ascB l = true) : 0 < l.length := (ascB_iff.1 h).1
theorem asc_iv {l : List Sp} (h : ascB l = true) {k : Nat} (hk : k < l.length) : -4398046511104 ≤ fr l k ∧ fr l k < tt l k ∧ tt l k ≤ 4398046511104 := by
  have h1 := (ascB_iff.1 h).2 k hk
  simp only [ascAt, Bool.and_eq_true] at h1
  exact ivB_iff.1 h1.1
/-- span i+m is span i, d further on -/
def eqAt (d : Int) (l : List Sp) (m i : Nat) : Bool := fr l (i + m) == fr l i + d && tt l (i + m) == tt l i + d
/-- the list is the one of its first m spans, repeated -/
def repM (p : Int) (l : List Sp) (m : Nat) : Bool :=
  l.length % m == 0 && (p % ((l.length / m : Nat) : Int) == 0 && (List.range (l.length - m)).all (eqAt (p / ((l.length / m : Nat) : Int)) l m))
def leastN (p : Int) (l : List Sp) : Nat := (((List.range l.length).find? fun j => repM p l (j + 1)).map (· + 1)).getD l.length
theorem leastN_at {p : Int} {l : List Sp} {m : Nat} (h1 : 1 ≤ m) (h2 : m ≤ l.length) (h3 : repM p l m = true) (h4 : ∀ j, j < m → 1 ≤ j → repM p l j = false) : leastN p l = m := by
  have : (List.range l.length).find? (fun j => repM p l (j + 1)) = some (m - 1) := by
    rw [List.find?_range_eq_some]
    refine ⟨by rw [Nat.sub_add_cancel h1]; exact h3, by simp; omega, fun j hj => ?_⟩
    simp [h4 (j + 1) (by omega) (by omega)]
  simp [leastN, this]; omega
theorem repM_self {p : Int} {l : List Sp} (h : 0 < l.length) : repM p l l.length = true := by
  simp [repM, Nat.div_self h]
theorem repM_f1 {p : Int} {l : List Sp} {m : Nat} (h : ¬ l.length % m = 0) : repM p l m = false := by simp [repM, h]
theorem repM_f2 {p : Int} {l : List Sp} {m : Nat} (h : ¬ p % ((l.length / m : Nat) : Int) = 0) : repM p l m = false := by
  simp [repM]; intro _ h'; exact absurd h' (by simpa using h)
theorem repM_f3 {p : Int} {l : List Sp} {m i : Nat} (hi : i + m < l.length) (h : eqAt (p / ((l.length / m : Nat) : Int)) l m i = false) : repM p l m = false := by
  simp only [repM, Bool.and_eq_false_iff]
  right; right; rw [List.all_eq_false]; exact ⟨i, by simp; omega, by rw [h]; simp⟩
theorem repM_t {p : Int} {l : List Sp} {m : Nat} (h1 : l.length % m = 0) (h2 : p % ((l.length / m : Nat) : Int) = 0) (h3 : ∀ i, i < l.length - m → eqAt (p / ((l.length / m : Nat) : Int)) l m i = true) : repM p l m = true := by
  have : (List.range (l.length - m)).all (eqAt (p / ((l.length / m : Nat) : Int)) l m) = true := by
    rw [List.all_eq_true]; intro i hi; exact h3 i (by simpa using hi)
  simp only [repM, this, h1, h2]; rfl
theorem leastN_spec {p : Int} {l : List Sp} (h0 : 0 < l.length) : 1 ≤ leastN p l ∧ leastN p l ≤ l.length ∧ repM p l (leastN p l) = true ∧ ∀ j, j < leastN p l → 1 ≤ j → repM p l j = false := by
  unfold leastN
  cases hf : (List.range l.length).find? fun j => repM p l (j + 1) with
  | none =>
    rw [List.find?_eq_none] at hf
    have := hf (l.length - 1) (by simp; omega)
    rw [Nat.sub_add_cancel h0] at this
    exact absurd (repM_self h0) this
  | some i =>
    rw [List.find?_range_eq_some] at hf
    obtain ⟨h1, h2, h3⟩ := hf
    have hi : i < l.length := by simpa using h2
    simp only [Option.map_some, Option.getD_some]
    refine ⟨by omega, by omega, h1, fun j hj hj1 => ?_⟩
    have := h3 (j - 1) (by omega)
    rw [Nat.sub_add_cancel hj1] at this
    simpa using this
theorem repM_parts {p : Int} {l : List Sp} {m : Nat} (h : repM p l m = true) : l.length % m = 0 ∧ p % ((l.length / m : Nat) : Int) = 0 ∧ ∀ i, i + m < l.length → eqAt (p / ((l.length / m : Nat) : Int)) l m i = true := by
  simp only [repM, Bool.and_eq_true, List.all_eq_true, List.mem_range, beq_iff_eq] at h
  exact ⟨h.1, h.2.1, fun i hi => h.2.2 i (by omega)⟩
/-- the ends are small enough to add a period -/
def BdS (l : List Sp) : Prop := ∀ k, k < l.length → -1152921504606846976 ≤ fr l k ∧ fr l k ≤ 1152921504606846976 ∧ -1152921504606846976 ≤ tt l k ∧ tt l k ≤ 1152921504606846976
def validB (o p : Int) (l : List Sp) : Bool :=
  decide (1 ≤ l.length) && (decide (l.length ≤ 5000) && (decide (1 ≤ p) && (decide (p ≤ 12622780800) && (halfB o && (ascB l && (fr l 0 == 0 && (decide (tt l (l.length - 1) ≤ p) && leastN p l == l.length)))))))
theorem asc_bd {l : List Sp} (h : ascB l = true) : BdS l := fun k hk => by
  have h1 := (ascB_iff.1 h).2 k hk
  simp only [ascAt, Bool.and_eq_true] at h1
  have := ivB_iff.1 h1.1
  omega
/-- what the great test of Valid comes to -/
def vtest (o p : Int) (l : List Sp) : Bool :=
  decide (l.length ≤ 5000) && (decide (1 ≤ p) && (decide (p ≤ 12622780800) && (halfB o && (ascB l && (fr l 0 == 0 && decide (tt l (l.length - 1) ≤ p))))))
theorem validB_f {o p : Int} {l : List Sp} (h0 : 0 < l.length) (h : vtest o p l = false) : validB o p l = false := by
  simp only [vtest, validB] at *
  rw [decide_eq_true (show 1 ≤ l.length from h0), Bool.true_and]
  revert h
  cases decide (l.length ≤ 5000) <;> cases decide (1 ≤ p) <;> cases decide (p ≤ 12622780800) <;> cases halfB o <;> cases ascB l <;> cases (fr l 0 == 0) <;> cases decide (tt l (l.length - 1) ≤ p) <;> simp
theorem validB_t {o p : Int} {l : List Sp} (h0 : 0 < l.length) (h : vtest o p l = true) : validB o p l = (leastN p l == l.length) := by
  simp only [vtest, validB] at *
  rw [decide_eq_true (show 1 ≤ l.length from h0), Bool.true_and]
  revert h
  cases decide (l.length ≤ 5000) <;> cases decide (1 ≤ p) <;> cases decide (p ≤ 12622780800) <;> cases halfB o <;> cases ascB l <;> cases (fr l 0 == 0) <;> cases decide (tt l (l.length - 1) ≤ p) <;> simp
theorem repM_eq {p : Int} {l : List Sp} {m : Nat} (h1 : l.length % m = 0) (h2 : p % ((l.length / m : Nat) : Int) = 0) (h3 : ∀ i, i + m < l.length → eqAt (p / ((l.length / m : Nat) : Int)) l m i = true) : true = repM p l m :=
  (repM_t h1 h2 (fun i hi => h3 i (by omega))).symm
def shiftL (l : List Sp) (d : Int) : List Sp := l.map fun s => (s.1 - d, s.2 - d)
theorem shiftL_len (l : List Sp) (d : Int) : (shiftL l d).length = l.length := by simp [shiftL]
theorem fr_shift {l : List Sp} {d : Int} {k : Nat} (hk : k < l.length) : fr (shiftL l d) k = fr l k - d := by
  simp [fr, shiftL, List.getD_eq_getElem?_getD, List.getElem?_map, List.getElem?_eq_getElem hk]
theorem tt_shift {l : List Sp} {d : Int} {k : Nat} (hk : k < l.length) : tt (shiftL l d) k = tt l k - d := by
  simp [tt, shiftL, List.getD_eq_getElem?_getD, List.getElem?_map, List.getElem?_eq_getElem hk]
theorem shiftL_take_succ {l : List Sp} {d : Int} {k : Nat} (hk : k < l.length) : shiftL (l.take (k + 1)) d = shiftL (l.take k) d ++ [(fr l k - d, tt l k - d)] := by
  simp only [shiftL]
  rw [List.take_succ_eq_append_getElem hk, List.map_append]
  simp [fr, tt, List.getD_eq_getElem?_getD, List.getElem?_eq_getElem hk]
def ofErr (o p : Int) (l : List Sp) : Int :=
  if p < 1 ∨ 12622780800 < p ∨ ascB l = false ∨ p < tt l (l.length - 1) - fr l 0 then 1
  else if 5000 < l.length then 5
  else if lineB o = false ∨ halfB (o + fr l 0) = false then 2 else 0
def ofM (p : Int) (l : List Sp) : Nat := leastN p (shiftL l (fr l 0))
def ofL (p : Int) (l : List Sp) : List Sp := (shiftL l (fr l 0)).take (ofM p l)
def ofP (p : Int) (l : List Sp) : Int := p / ((l.length : Int) / (ofM p l : Int))
def atF (o p : Int) (l : List Sp) (k : Int) : Int := fr l (k % (l.length : Int)).toNat + (o + p * (k / (l.length : Int)))
def atT (o p : Int) (l : List Sp) (k : Int) : Int := tt l (k % (l.length : Int)).toNat + (o + p * (k / (l.length : Int)))
/-- what makes a calendar valid, in pieces -/
structure Vd (o p : Int) (l : List Sp) : Prop where
  n0 : 0 < l.length
  n5 : l.length ≤ 5000
  p1 : 1 ≤ p
  p2 : p ≤ 12622780800
  o1 : -2199023255552 ≤ o
  o2 : o ≤ 2199023255552
  asc : ascB l = true
  f0 : fr l 0 = 0
  tl : tt l (l.length - 1) ≤ p
  least : leastN p l = l.length
theorem Vd.of {o p : Int} {l : List Sp} (h : validB o p l = true) : Vd o p l := by
  simp only [validB, Bool.and_eq_true, decide_eq_true_eq, beq_iff_eq] at h
  obtain ⟨h1, h2, h3, h4, h5, h6, h7, h8, h9⟩ := h
  have := halfB_iff.1 h5
  exact ⟨h1, h2, h3, h4, this.1, this.2, h6, h7, h8, h9⟩
theorem Vd.back {o p : Int} {l : List Sp} (h : Vd o p l) : validB o p l = true := by
  simp only [validB, Bool.and_eq_true, decide_eq_true_eq, beq_iff_eq]
  exact ⟨h.n0, h.n5, h.p1, h.p2, halfB_iff.2 ⟨h.o1, h.o2⟩, h.asc, h.f0, h.tl, h.least⟩
theorem asc_mono {l : List Sp} (h : ascB l = true) : ∀ j i, i ≤ j → j < l.length → fr l i ≤ fr l j ∧ tt l i ≤ tt l j := by
  intro j
  induction j with
  | zero => intro i hi hj; have : i = 0 := by omega
            subst this; exact ⟨Int.le_refl _, Int.le_refl _⟩
  | succ j ih =>
    intro i hi hj
    rcases Nat.lt_or_ge i (j + 1) with h1 | h1
    · have h2 := ih i (by omega) (by omega)
      have h3 := asc_iv h (show j < l.length by omega)
      have h4 := asc_iv h hj
      have h5 := (ascB_iff.1 h).2 (j + 1) hj
      simp only [ascAt, Bool.and_eq_true, Bool.or_eq_true, decide_eq_true_eq, beq_iff_eq] at h5
      have h6 : tt l j ≤ fr l (j + 1) := by rcases h5.2 with h | h
                                            · omega
                                            · exact h
      omega
    · have : i = j + 1 := by omega
      subst this; exact ⟨Int.le_refl _, Int.le_refl _⟩
theorem Vd.bd {o p : Int} {l : List Sp} (h : Vd o p l) {k : Nat} (hk : k < l.length) : 0 ≤ fr l k ∧ fr l k < tt l k ∧ tt l k ≤ p := by
  have h1 := asc_mono h.asc k 0 (by omega) hk
  have h2 := asc_mono h.asc (l.length - 1) k (by omega) (by have := h.n0; omega)
  have h3 := asc_iv h.asc hk
  have h4 := h.f0
  have h5 := h.tl
  omega
theorem mul_small {n : Nat} {q p : Int} (h0 : 0 < n) (h5 : n ≤ 5000) (hp : 1 ≤ p) (h1 : -1125899906842624 ≤ p * q) (h2 : p * q ≤ 1125899906842624) : -5629499534213120000 ≤ (n : Int) * q ∧ (n : Int) * q ≤ 5629499534213120000 ∧ -1125899906842624 ≤ q ∧ q ≤ 1125899906842624 := by
  have hq : -1125899906842624 ≤ q ∧ q ≤ 1125899906842624 := by
    constructor
    · rcases Int.lt_or_le q 0 with hq | hq
      · have : p * q ≤ 1 * q := Int.mul_le_mul_of_nonpos_right hp (by omega)
        omega
      · omega
    · rcases Int.lt_or_le q 0 with hq | hq
      · omega
      · have : 1 * q ≤ p * q := Int.mul_le_mul_of_nonneg_right hp (by omega)
        omega
  have hn : (0 : Int) ≤ (n : Int) ∧ (n : Int) ≤ 5000 := by omega
  obtain ⟨a, b⟩ := hq
  refine ⟨?_, ?_, a, b⟩
  · have e1 : (n : Int) * (-1125899906842624) ≤ (n : Int) * q := Int.mul_le_mul_of_nonneg_left a (by omega)
    omega
  · have e1 : (n : Int) * q ≤ (n : Int) * 1125899906842624 := Int.mul_le_mul_of_nonneg_left b (by omega)
    omega
/-- the last of the first n spans that begins at r or before; 0 if none -/
def lastTo (l : List Sp) (r : Int) : Nat → Nat
  | 0 => 0
  | n + 1 => if fr l n ≤ r then n else lastTo l r n
def nearN (o p : Int) (l : List Sp) (x : Int) : Int := (l.length : Int) * ((x - o) / p) + (lastTo l ((x - o) % p) l.length : Int)
theorem lastTo_eq {l : List Sp} {r : Int} : ∀ (n i : Nat), i < n → fr l i ≤ r → (∀ j, i < j → j < n → r < fr l j) → lastTo l r n = i := by
  intro n
  induction n with
  | zero => intro i hi; omega
  | succ n ih =>
    intro i hi h1 h2
    unfold lastTo
    by_cases h : i = n
    · subst h; rw [if_pos h1]
    · rw [if_neg (by have := h2 n (by omega) (by omega); omega)]
      exact ih i (by omega) h1 (fun j hj hj2 => h2 j hj (by omega))
def nearR (o p : Int) (l : List Sp) (x : Int) : Int := if validB o p l && lineB x then nearN o p l x else 0
theorem near_q {o p x : Int} {l : List Sp} (hv : Vd o p l) (h1 : -4398046511104 ≤ x) (h2 : x ≤ 4398046511104) : -6597069766656 ≤ (x - o) / p ∧ (x - o) / p ≤ 6597069766656 ∧ -6597069766656 ≤ p * ((x - o) / p) + p ∧ p * ((x - o) / p) ≤ 6597069766656 ∧
    (x - o) - p * ((x - o) / p) = (x - o) % p ∧ 0 ≤ (x - o) % p ∧ (x - o) % p < p := by
  have a1 := hv.o1
  have a2 := hv.o2
  have p1 := hv.p1
  have hm := Int.emod_add_mul_ediv (x - o) p
  have hd := div_bd (a := x - o) p1
  have e1 : (x - o) / p ≤ 6597069766656 := by
    rcases Int.lt_or_le (x - o) 0 with h | h
    · have h3 : (x - o) / p < 0 := Int.ediv_neg_of_neg_of_pos h (by omega)
      omega
    · have := Int.ediv_le_self p h
      omega
  have e2 : -6597069766656 ≤ (x - o) / p := by
    apply Int.le_ediv_of_mul_le (by omega)
    have : -6597069766656 * p ≤ -6597069766656 * 1 := Int.mul_le_mul_of_nonpos_left (by omega) p1
    omega
  refine ⟨e2, e1, by omega, by omega, by omega, hd.1, hd.2⟩
theorem lastTo_step {l : List Sp} {r : Int} {i : Nat} : lastTo l r (i + 1) = if fr l i ≤ r then i else lastTo l r i := rfl
theorem eqAt_iff {d : Int} {l : List Sp} {m i : Nat} : eqAt d l m i = true ↔ fr l (i + m) = fr l i + d ∧ tt l (i + m) = tt l i + d := by simp [eqAt]
theorem fr_take {l : List Sp} {m k : Nat} (h : k < m) : fr (l.take m) k = fr l k := by
  simp [fr, h]
theorem tt_take {l : List Sp} {m k : Nat} (h : k < m) : tt (l.take m) k = tt l k := by
  simp [tt, h]
/-- steps of m, d each -/
theorem iter_step {l : List Sp} {m n : Nat} {d : Int} (h : ∀ i, i + m < n → fr l (i + m) = fr l i + d ∧ tt l (i + m) = tt l i + d) :
    ∀ a b, b + a * m < n → fr l (b + a * m) = fr l b + a * d ∧ tt l (b + a * m) = tt l b + a * d := by
  intro a
  induction a with
  | zero => intro b _; simp
  | succ a ih =>
    intro b hb
    rw [Nat.succ_mul] at hb
    have h1 := ih b (by omega)
    have h2 := h (b + a * m) (by omega)
    have e : b + (a + 1) * m = b + a * m + m := by rw [Nat.succ_mul]; omega
    rw [e, h2.1, h2.2, h1.1, h1.2]
    have e2 : ((a + 1 : Nat) : Int) * d = a * d + d := by rw [Int.natCast_add, Int.add_mul]; simp
    rw [e2]; omega
theorem rep_spec {p : Int} {l : List Sp} {m : Nat} (h : repM p l m = true) (hm : 1 ≤ m) (hl : m ≤ l.length) :
    ∃ (q : Nat) (d : Int), l.length = q * m ∧ 1 ≤ q ∧ p = q * d ∧ p / (q : Int) = d ∧ l.length / m = q ∧ ∀ i, i + m < l.length → fr l (i + m) = fr l i + d ∧ tt l (i + m) = tt l i + d := by
  obtain ⟨h1, h2, h3⟩ := repM_parts h
  have hq : l.length = l.length / m * m := by have := Nat.div_add_mod l.length m; rw [Nat.mul_comm] at this; omega
  have hq1 : 1 ≤ l.length / m := by
    rcases Nat.eq_zero_or_pos (l.length / m) with h0 | h0
    · rw [h0] at hq; omega
    · exact h0
  refine ⟨l.length / m, p / ((l.length / m : Nat) : Int), hq, hq1, ?_, rfl, rfl, fun i hi => eqAt_iff.1 (h3 i hi)⟩
  have := Int.mul_ediv_add_emod p ((l.length / m : Nat) : Int)
  omega
theorem rep_mk {p : Int} {l : List Sp} {m : Nat} (q : Nat) (d : Int) (hm : 1 ≤ m) (hl : l.length = q * m) (hq : 1 ≤ q) (hp : p = q * d) (h : ∀ i, i + m < l.length → fr l (i + m) = fr l i + d ∧ tt l (i + m) = tt l i + d) : repM p l m = true := by
  have e : l.length / m = q := by rw [hl]; exact Nat.mul_div_cancel _ hm
  have e2 : p / (q : Int) = d := by rw [hp]; exact Int.mul_ediv_cancel_left _ (by omega)
  refine repM_t (by rw [hl]; exact Nat.mul_mod_left _ _) ?_ (fun i hi => ?_)
  · rw [e, hp]; exact Int.mul_emod_right _ _
  · rw [e, e2]; exact eqAt_iff.2 (h i (by omega))
/-- a repetition of the first part is one of the whole -/
theorem rep_trans {p : Int} {l : List Sp} {m j : Nat} (hm : 1 ≤ m) (hl : m ≤ l.length) (hr : repM p l m = true) (hj : 1 ≤ j) (hjm : j ≤ m) (hr2 : repM (p / ((l.length / m : Nat) : Int)) (l.take m) j = true) : repM p l j = true := by
  obtain ⟨q, P, hq1, hq2, hq3, hq4, hq5, hq6⟩ := rep_spec hr hm hl
  have hlt : (l.take m).length = m := by rw [List.length_take]; omega
  obtain ⟨s, d, hs1, hs2, hs3, hs4, hs5, hs6⟩ := rep_spec hr2 hj (by rw [hlt]; exact hjm)
  rw [hlt] at hs1 hs6
  rw [hq5, hq4] at hs3
  refine rep_mk (q * s) d hj (by rw [hq1, hs1, Nat.mul_assoc]) (Nat.mul_pos hq2 hs2) (by rw [hq3, hs3, Int.natCast_mul, Int.mul_assoc]) (fun i hi => ?_)
  have hit := iter_step hq6
  have his : ∀ a b, b + a * j < m → fr l (b + a * j) = fr l b + a * d ∧ tt l (b + a * j) = tt l b + a * d := by
    refine iter_step (n := m) (fun i hi => ?_)
    have := hs6 i hi
    rw [fr_take (by omega), fr_take (by omega), tt_take (by omega), tt_take (by omega)] at this
    exact this
  -- i = b + a * m
  have hb : i % m < m := Nat.mod_lt _ (by omega)
  have hi2 : i = i % m + i / m * m := by have := Nat.div_add_mod i m; rw [Nat.mul_comm] at this; omega
  generalize i % m = b at *
  generalize i / m = a at *
  subst hi2
  have h0 := hit a b (by omega)
  by_cases hbj : b + j < m
  · have h1 := hit a (b + j) (by omega)
    have h2 := his 1 b (by omega)
    rw [show b + a * m + j = b + j + a * m by omega, h1.1, h1.2, h0.1, h0.2]
    rw [Nat.one_mul] at h2
    rw [h2.1, h2.2]
    omega
  · -- b + j - m = c
    have hc : b = (b + j - m) + (s - 1) * j := by rw [Nat.sub_mul, ← hs1]; omega
    have h1 := hit (a + 1) (b + j - m) (by rw [Nat.succ_mul]; omega)
    have h2 := his (s - 1) (b + j - m) (by omega)
    rw [← hc] at h2
    rw [show b + a * m + j = b + j - m + (a + 1) * m by rw [Nat.succ_mul]; omega, h1.1, h1.2, h0.1, h0.2, h2.1, h2.2]
    have e1 : ((a + 1 : Nat) : Int) * P = a * P + P := by rw [Int.natCast_add, Int.add_mul]; simp
    have e2 : ((s - 1 : Nat) : Int) * d = s * d - d := by rw [Int.natCast_sub hs2, Int.sub_mul]; simp
    rw [e1, e2, hs3]
    omega
theorem leastN_take {p : Int} {l : List Sp} (h0 : 0 < l.length) : leastN (p / ((l.length / leastN p l : Nat) : Int)) (l.take (leastN p l)) = leastN p l := by
  obtain ⟨m1, m2, m3, m4⟩ := leastN_spec (p := p) h0
  have hlt : (l.take (leastN p l)).length = leastN p l := by rw [List.length_take]; omega
  have hself := repM_self (p := p / ((l.length / leastN p l : Nat) : Int)) (l := l.take (leastN p l)) (by omega)
  rw [hlt] at hself
  refine leastN_at m1 (by omega) hself (fun j hj hj1 => ?_)
  cases hr : repM (p / ((l.length / leastN p l : Nat) : Int)) (l.take (leastN p l)) j with
  | false => rfl
  | true =>
    have := rep_trans m1 m2 m3 hj1 (by omega) hr
    rw [m4 j hj hj1] at this
    cases this
/-- where Of succeeds -/
structure OfOkB (o p : Int) (l : List Sp) : Prop where
  p1 : 1 ≤ p
  p2 : p ≤ 12622780800
  asc : ascB l = true
  fit : tt l (l.length - 1) - fr l 0 ≤ p
  n5 : l.length ≤ 5000
  line : lineB o = true
  half : halfB (o + fr l 0) = true
theorem ofErr_zero {o p : Int} {l : List Sp} : ofErr o p l = 0 ↔ OfOkB o p l := by
  constructor
  · intro h
    unfold ofErr at h
    split at h
    · omega
    · split at h
      · omega
      · split at h
        · omega
        · rename_i h1 h2 h3
          simp only [not_or, Bool.not_eq_false] at h1 h3
          exact ⟨by omega, by omega, h1.2.2.1, by omega, by omega, h3.1, h3.2⟩
  · intro h
    have h1 := h.p1
    have h2 := h.p2
    have h3 := h.fit
    have h4 := h.n5
    unfold ofErr
    rw [if_neg (by simp [h.asc]; omega), if_neg (by omega), if_neg (by simp [h.line, h.half])]
theorem shift_asc {l : List Sp} (h : ascB l = true) {p : Int} (_hp2 : p ≤ 12622780800) (hf : tt l (l.length - 1) - fr l 0 ≤ p) {k : Nat} (hk : k < l.length) :
    0 ≤ fr (shiftL l (fr l 0)) k ∧ fr (shiftL l (fr l 0)) k < tt (shiftL l (fr l 0)) k ∧ tt (shiftL l (fr l 0)) k ≤ p ∧ (0 < k → tt (shiftL l (fr l 0)) (k - 1) ≤ fr (shiftL l (fr l 0)) k) := by
  rw [fr_shift hk, tt_shift hk]
  have h1 := asc_mono h k 0 (by omega) hk
  have h2 := asc_mono h (l.length - 1) k (by omega) (by omega)
  have h3 := asc_iv h hk
  refine ⟨by omega, by omega, by omega, fun h0 => ?_⟩
  rw [tt_shift (by omega)]
  have h5 := (ascB_iff.1 h).2 k hk
  simp only [ascAt, Bool.and_eq_true, Bool.or_eq_true, decide_eq_true_eq, beq_iff_eq] at h5
  rcases h5.2 with h6 | h6 <;> omega
theorem of_valid {o p : Int} {l : List Sp} (h : OfOkB o p l) : Vd (o + fr l 0) (ofP p l) (ofL p l) := by
  have h0 := asc_ne h.asc
  have hlen := shiftL_len l (fr l 0)
  obtain ⟨m1, m2, m3, m4⟩ := leastN_spec (p := p) (l := shiftL l (fr l 0)) (by omega)
  have hm : leastN p (shiftL l (fr l 0)) = ofM p l := rfl
  obtain ⟨q, d, hq1, hq2, hq3, hq4, hq5, hq6⟩ := rep_spec m3 m1 m2
  have hP : ofP p l = d := by
    unfold ofP
    have e : ((l.length : Int) / (ofM p l : Int)) = (q : Int) := by rw [← hq5, hlen, hm]; simp
    rw [e, hq4]
  have hL : (ofL p l).length = ofM p l := by unfold ofL; rw [List.length_take]; omega
  have hleast : leastN (ofP p l) (ofL p l) = ofM p l := by
    have := leastN_take (p := p) (l := shiftL l (fr l 0)) (by omega)
    rw [hq5, hq4] at this
    rw [hP]; exact this
  have hA := fun k (hk : k < l.length) => shift_asc h.asc h.p2 h.fit hk
  have hfr : ∀ k, k < ofM p l → fr (ofL p l) k = fr (shiftL l (fr l 0)) k := fun k hk => fr_take hk
  have htt : ∀ k, k < ofM p l → tt (ofL p l) k = tt (shiftL l (fr l 0)) k := fun k hk => tt_take hk
  have hp1 := h.p1
  have hp2 := h.p2
  have hd1 : 1 ≤ d := by
    rcases Int.lt_or_le d 1 with hd | hd
    · have : (q : Int) * d ≤ (q : Int) * 0 := Int.mul_le_mul_of_nonneg_left (by omega) (by omega)
      omega
    · exact hd
  have hd2 : d ≤ p := by
    have : 1 * d ≤ (q : Int) * d := Int.mul_le_mul_of_nonneg_right (by omega) (by omega)
    omega
  have hf0 : fr (shiftL l (fr l 0)) 0 = 0 := by rw [fr_shift h0]; omega
  have hhalf := halfB_iff.1 h.half
  rw [hlen, hm] at hq1
  rw [hm] at m1 m2
  rw [hm, hlen] at hq6
  refine ⟨by omega, by rw [hL]; have := h.n5; omega, by rw [hP]; exact hd1, by rw [hP]; omega, hhalf.1, hhalf.2, ?_, by rw [hfr 0 (by omega)]; exact hf0, ?_, by rw [hleast, hL]⟩
  · rw [ascB_iff, hL]
    refine ⟨by omega, fun j hj => ?_⟩
    have := hA j (by omega)
    simp only [ascAt, Bool.and_eq_true, Bool.or_eq_true, decide_eq_true_eq, beq_iff_eq]
    rw [hfr j hj, htt j hj]
    refine ⟨ivB_iff.2 (by omega), ?_⟩
    rcases Nat.eq_zero_or_pos j with hz | hz
    · exact .inl hz
    · right; rw [htt _ (by omega)]; exact this.2.2.2 hz
  · rw [hL, htt _ (by omega), hP]
    by_cases hq : q = 1
    · have e : d = p := by rw [hq3, hq]; simp
      have := (hA (ofM p l - 1) (by omega)).2.2.1
      omega
    · have hlt : ofM p l < l.length := by
        rw [hq1]
        have : 2 * ofM p l ≤ q * ofM p l := Nat.mul_le_mul_right _ (by omega)
        omega
      have h1 := (hq6 0 (by omega)).1
      rw [Nat.zero_add, hf0] at h1
      have h2 := (hA (ofM p l) hlt).2.2.2 (by omega)
      omega
theorem eqAt_shift {p d : Int} {l : List Sp} {m i : Nat} (h : i + m < l.length) : eqAt p (shiftL l d) m i = eqAt p l m i := by
  rw [Bool.eq_iff_iff]
  simp only [eqAt, Bool.and_eq_true, beq_iff_eq]
  rw [fr_shift h, tt_shift h, fr_shift (show i < l.length by omega), tt_shift (show i < l.length by omega)]
  omega
theorem repM_shift {p d : Int} {l : List Sp} {m : Nat} : repM p (shiftL l d) m = repM p l m := by
  unfold repM
  rw [shiftL_len]
  have : (List.range (l.length - m)).all (eqAt (p / ((l.length / m : Nat) : Int)) (shiftL l d) m) = (List.range (l.length - m)).all (eqAt (p / ((l.length / m : Nat) : Int)) l m) := by
    rw [Bool.eq_iff_iff, List.all_eq_true, List.all_eq_true]
    constructor
    · intro h i hi
      have := h i hi
      rwa [eqAt_shift (by have := List.mem_range.1 hi; omega)] at this
    · intro h i hi
      rw [eqAt_shift (by have := List.mem_range.1 hi; omega)]
      exact h i hi
  rw [this]
theorem leastN_shift {p d : Int} {l : List Sp} : leastN p (shiftL l d) = leastN p l := by
  unfold leastN
  rw [shiftL_len]
  simp only [repM_shift]
/-- granule k lies on the line -/
def onB (o p : Int) (l : List Sp) (k : Int) : Bool := lineB (atF o p l k) && lineB (atT o p l k)
def spanE (o p : Int) (l : List Sp) (k : Int) : Int := if validB o p l then (if onB o p l k then 0 else 2) else 1
def spanF (o p : Int) (l : List Sp) (k : Int) : Int := if spanE o p l k = 0 then atF o p l k else 0
def spanT (o p : Int) (l : List Sp) (k : Int) : Int := if spanE o p l k = 0 then atT o p l k else 0
theorem far_hi {o p : Int} {l : List Sp} {k M : Int} (hv : Vd o p l) (hM : 8796093022208 ≤ M) (h : M / p < k / (l.length : Int)) : onB o p l k = false := by
  have hm := div_bd (a := k) (b := (l.length : Int)) (by have := hv.n0; omega)
  have hb := hv.bd (show (k % (l.length : Int)).toNat < l.length by have := hv.n0; omega)
  have h1 : p * (M / p + 1) ≤ p * (k / (l.length : Int)) := Int.mul_le_mul_of_nonneg_left (by omega) (by have := hv.p1; omega)
  have h2 := Int.mul_ediv_add_emod M p
  have h3 := Int.emod_lt_of_pos M (show 0 < p by have := hv.p1; omega)
  rw [Int.mul_add] at h1
  have o1 := hv.o1
  have : lineB (atF o p l k) = false := by
    cases hl : lineB (atF o p l k) with
    | false => rfl
    | true => have := lineB_iff.1 hl
              simp only [atF] at this
              omega
  simp [onB, this]
theorem far_lo {o p : Int} {l : List Sp} {k M : Int} (hv : Vd o p l) (hM : 8796093022208 ≤ M) (h : k / (l.length : Int) < -(M / p) - 1) : onB o p l k = false := by
  have hm := div_bd (a := k) (b := (l.length : Int)) (by have := hv.n0; omega)
  have hb := hv.bd (show (k % (l.length : Int)).toNat < l.length by have := hv.n0; omega)
  have h1 : p * (k / (l.length : Int)) ≤ p * (-(M / p) - 2) := Int.mul_le_mul_of_nonneg_left (by omega) (by have := hv.p1; omega)
  have h2 := Int.mul_ediv_add_emod M p
  have h3 := Int.emod_lt_of_pos M (show 0 < p by have := hv.p1; omega)
  have e : p * (-(M / p) - 2) = -(p * (M / p)) - p * 2 := by rw [Int.mul_sub, Int.mul_neg]
  have o2 := hv.o2
  have : lineB (atF o p l k) = false := by
    cases hl : lineB (atF o p l k) with
    | false => rfl
    | true => have := lineB_iff.1 hl
              simp only [atF] at this
              omega
  simp [onB, this]
theorem near_bd {p : Int} {k M : Int} {n : Nat} (hp : 1 ≤ p) (hp2 : p ≤ 12622780800) (hM : M ≤ 35184372088832) (hM0 : 0 ≤ M) (h1 : k / (n : Int) ≤ M / p + 1) (h2 : -(M / p) - 1 ≤ k / (n : Int)) :
    -1125899906842624 ≤ p * (k / (n : Int)) ∧ p * (k / (n : Int)) ≤ 1125899906842624 := by
  have e1 : p * (k / (n : Int)) ≤ p * (M / p + 1) := Int.mul_le_mul_of_nonneg_left h1 (by omega)
  have e2 : p * (-(M / p) - 1) ≤ p * (k / (n : Int)) := Int.mul_le_mul_of_nonneg_left h2 (by omega)
  have e3 : p * (-(M / p) - 1) = -(p * (M / p)) - p := by rw [Int.mul_sub, Int.mul_neg]; omega
  rw [Int.mul_add] at e1
  have h4 := Int.mul_ediv_add_emod M p
  have h5 := div_bd (a := M) hp
  omega
theorem spanE_v {o p : Int} {l : List Sp} {k : Int} (hv : validB o p l = false) : spanE o p l k = 1 ∧ spanF o p l k = 0 ∧ spanT o p l k = 0 := by
  have : spanE o p l k = 1 := by simp [spanE, hv]
  simp [spanF, spanT, this]
theorem spanE_off {o p : Int} {l : List Sp} {k : Int} (hv : validB o p l = true) (h : onB o p l k = false) : spanE o p l k = 2 ∧ spanF o p l k = 0 ∧ spanT o p l k = 0 := by
  have : spanE o p l k = 2 := by simp [spanE, hv, h]
  simp [spanF, spanT, this]
theorem spanE_on {o p : Int} {l : List Sp} {k : Int} (hv : validB o p l = true) (h : onB o p l k = true) : spanE o p l k = 0 ∧ spanF o p l k = atF o p l k ∧ spanT o p l k = atT o p l k := by
  have : spanE o p l k = 0 := by simp [spanE, hv, h]
  simp [spanF, spanT, this]
theorem lastTo_lt {l : List Sp} {r : Int} : ∀ n, 0 < n → lastTo l r n < n := by
  intro n
  induction n with
  | zero => omega
  | succ n ih =>
    intro _
    unfold lastTo
    split
    · omega
    · rcases Nat.eq_zero_or_pos n with h | h
      · subst h; simp [lastTo]
      · have := ih h; omega
theorem nearN_div {o p x : Int} {l : List Sp} (h : 0 < l.length) : nearN o p l x / (l.length : Int) = (x - o) / p ∧ nearN o p l x % (l.length : Int) = (lastTo l ((x - o) % p) l.length : Int) := by
  have hl := lastTo_lt (l := l) (r := (x - o) % p) l.length h
  unfold nearN
  generalize lastTo l ((x - o) % p) l.length = t at *
  constructor
  · rw [Int.add_comm, Int.add_mul_ediv_left _ _ (by omega), Int.ediv_eq_zero_of_lt (by omega) (by omega)]; omega
  · rw [Int.mul_add_emod_self_left, Int.emod_eq_of_lt (by omega) (by omega)]
/-- the granule with the number that Near gives ends behind x -/
def inB (o p : Int) (l : List Sp) (x : Int) : Bool := decide (x < atT o p l (nearN o p l x))
def findB (o p : Int) (l : List Sp) (x : Int) : Bool := validB o p l && (lineB x && inB o p l x)
def findN (o p : Int) (l : List Sp) (x : Int) : Int := if findB o p l x then nearN o p l x else 0
theorem findB_no {o p x : Int} {l : List Sp} (h : validB o p l = false ∨ lineB x = false) : findB o p l x = false ∧ findN o p l x = 0 := by
  have : findB o p l x = false := by rcases h with h | h <;> simp [findB, h]
  exact ⟨this, by rw [findN, this]; rfl⟩
/-- where the next granule begins, in the list or behind it -/
def nextAt (p : Int) (l : List Sp) (k : Nat) : Int := if k + 1 < l.length then fr l (k + 1) else p
def gapB (o p : Int) (l : List Sp) : Bool := validB o p l && (List.range l.length).all fun k => tt l k == nextAt p l k
theorem gapB_f {o p : Int} {l : List Sp} {k : Nat} (hk : k < l.length) (h : tt l k ≠ nextAt p l k) : gapB o p l = false := by
  simp only [gapB, Bool.and_eq_false_iff]; right
  rw [List.all_eq_false]; exact ⟨k, by simpa using hk, by simpa using h⟩
theorem gapB_t {o p : Int} {l : List Sp} (hv : validB o p l = true) (h : ∀ k, k < l.length → tt l k = nextAt p l k) : gapB o p l = true := by
  simp only [gapB, hv, Bool.true_and]
  rw [List.all_eq_true]; intro k hk; simpa using h k (by simpa using hk)
theorem at_mk (o p : Int) {l : List Sp} (q : Int) {r : Nat} (hr : r < l.length) : ((l.length : Int) * q + r) / (l.length : Int) = q ∧ ((l.length : Int) * q + r) % (l.length : Int) = r ∧
    atF o p l ((l.length : Int) * q + r) = fr l r + (o + p * q) ∧ atT o p l ((l.length : Int) * q + r) = tt l r + (o + p * q) := by
  have e1 : ((l.length : Int) * q + r) / (l.length : Int) = q := by
    rw [Int.add_comm, Int.add_mul_ediv_left _ _ (by omega), Int.ediv_eq_zero_of_lt (by omega) (by omega)]; omega
  have e2 : ((l.length : Int) * q + r) % (l.length : Int) = r := by
    rw [Int.add_comm, Int.add_mul_emod_self_left, Int.emod_eq_of_lt (by omega) (by omega)]
  refine ⟨e1, e2, ?_, ?_⟩
  · rw [atF, e1, e2]; rfl
  · rw [atT, e1, e2]; rfl
theorem at_parts (k : Int) {l : List Sp} (h : 0 < l.length) : ∃ r : Nat, r < l.length ∧ k = (l.length : Int) * (k / (l.length : Int)) + r := by
  have hm := div_bd (a := k) (b := (l.length : Int)) (by omega)
  have := Int.emod_add_mul_ediv k (l.length : Int)
  exact ⟨(k % (l.length : Int)).toNat, by omega, by omega⟩
theorem next_bd {o p : Int} {l : List Sp} (hv : Vd o p l) {r : Nat} (hr : r < l.length) : tt l r ≤ nextAt p l r ∧ nextAt p l r ≤ p := by
  unfold nextAt
  split
  · rename_i h
    have h5 := (ascB_iff.1 hv.asc).2 (r + 1) h
    simp only [ascAt, Bool.and_eq_true, Bool.or_eq_true, decide_eq_true_eq, beq_iff_eq] at h5
    have hb := hv.bd h
    refine ⟨?_, by omega⟩
    rcases h5.2 with h | h
    · omega
    · exact h
  · have : r = l.length - 1 := by omega
    subst this
    exact ⟨hv.tl, Int.le_refl _⟩
theorem at_next {o p : Int} {l : List Sp} (hv : Vd o p l) (q : Int) {r : Nat} (hr : r < l.length) : atF o p l ((l.length : Int) * q + r + 1) = nextAt p l r + (o + p * q) := by
  unfold nextAt
  split
  · rename_i h
    have := (at_mk o p q h).2.2.1
    rw [← this]
    congr 1
    omega
  · have hn := hv.n0
    have := (at_mk o p (q + 1) hn).2.2.1
    rw [hv.f0] at this
    have e : (l.length : Int) * q + r + 1 = (l.length : Int) * (q + 1) + (0 : Nat) := by rw [Int.mul_add]; omega
    rw [e, this, Int.mul_add]
    omega
theorem at_lt {o p : Int} {l : List Sp} (hv : Vd o p l) (k : Int) : atF o p l k < atT o p l k ∧ atT o p l k ≤ atF o p l (k + 1) := by
  obtain ⟨r, hr, hk⟩ := at_parts k hv.n0
  rw [hk]
  obtain ⟨_, _, e1, e2⟩ := at_mk o p (k / (l.length : Int)) hr
  have e3 := at_next hv (k / (l.length : Int)) hr
  have h1 := next_bd hv hr
  have h2 := hv.bd hr
  omega
theorem near_of {o p : Int} {l : List Sp} (hv : Vd o p l) {k x : Int} (h1 : atF o p l k ≤ x) (h2 : x < atF o p l (k + 1)) : nearN o p l x = k := by
  obtain ⟨r, hr, hk⟩ := at_parts k hv.n0
  generalize k / (l.length : Int) = q at hk
  rw [hk] at h1 h2 ⊢
  rw [(at_mk o p q hr).2.2.1] at h1
  rw [at_next hv q hr] at h2
  have hn := next_bd hv hr
  have hb := hv.bd hr
  obtain ⟨y, hy⟩ : ∃ y, y = x - o - p * q := ⟨_, rfl⟩
  have e : x - o = y + p * q := by omega
  have hp := hv.p1
  have e1 : (x - o) / p = q := by rw [e, Int.add_mul_ediv_left _ _ (by omega), Int.ediv_eq_zero_of_lt (by omega) (by omega)]; omega
  have e2 : (x - o) % p = y := by rw [e, Int.add_mul_emod_self_left, Int.emod_eq_of_lt (by omega) (by omega)]
  have e3 : lastTo l y l.length = r := lastTo_eq _ _ hr (by omega) (fun j h3 h4 => by
    have h5 : nextAt p l r = fr l (r + 1) := by rw [nextAt, if_pos (by omega)]
    have h6 := (asc_mono hv.asc j (r + 1) (by omega) h4).1
    omega)
  rw [nearN, e1, e2, e3]
theorem near_next {o p : Int} {l : List Sp} (hv : Vd o p l) (k : Int) : nearN o p l (atF o p l (k + 1)) = k + 1 := by
  have h := at_lt hv (k + 1)
  exact near_of hv (Int.le_refl _) (by omega)
/-- what a row's span tells -/
theorem spanE_zero {o p k : Int} {l : List Sp} (h : spanE o p l k = 0) : validB o p l = true ∧ lineB (atF o p l k) = true ∧ lineB (atT o p l k) = true ∧ spanF o p l k = atF o p l k ∧ spanT o p l k = atT o p l k := by
  cases hv : validB o p l with
  | false => rw [spanE, hv] at h; simp at h
  | true =>
    cases ho : onB o p l k with
    | false => rw [spanE, hv, ho] at h; simp at h
    | true =>
      have h2 := spanE_on (k := k) hv ho
      rw [onB, Bool.and_eq_true] at ho
      exact ⟨rfl, ho.1, ho.2, h2.2.1, h2.2.2⟩
theorem find_in {o p k x : Int} {l : List Sp} (hv : validB o p l = true) (hl : lineB x = true) (h1 : atF o p l k ≤ x) (h2 : x < atT o p l k) : findB o p l x = true ∧ findN o p l x = k ∧ nearR o p l x = k := by
  have hd := Vd.of hv
  have hn := near_of hd h1 (by have := at_lt hd k; omega)
  have hb : findB o p l x = true := by simp [findB, hv, hl, inB, hn, h2]
  exact ⟨hb, by rw [findN, if_pos hb, hn], by rw [nearR, hv, hl]; exact hn⟩
theorem find_out {o p k x : Int} {l : List Sp} (hv : validB o p l = true) (hl : lineB x = true) (h1 : atT o p l k ≤ x) (h2 : x < atF o p l (k + 1)) : findB o p l x = false ∧ findN o p l x = 0 ∧ nearR o p l x = k := by
  have hd := Vd.of hv
  have hn := near_of hd (by have := at_lt hd k; omega) h2
  have hb : findB o p l x = false := by simp [findB, inB, hn]; omega
  exact ⟨hb, by rw [findN, hb]; rfl, by rw [nearR, hv, hl]; exact hn⟩
theorem at_add (o p : Int) {l : List Sp} (h : 0 < l.length) (k s : Int) : atF o p l (k + (l.length : Int) * s) = atF o p l k + p * s ∧ atT o p l (k + (l.length : Int) * s) = atT o p l k + p * s := by
  have e1 : (k + (l.length : Int) * s) / (l.length : Int) = k / (l.length : Int) + s := Int.add_mul_ediv_left _ _ (by omega)
  have e2 : (k + (l.length : Int) * s) % (l.length : Int) = k % (l.length : Int) := Int.add_mul_emod_self_left _ _ _
  unfold atF atT
  rw [e1, e2, Int.mul_add]
  omega
theorem at_rep (o : Int) {p : Int} {l : List Sp} {m : Nat} (h : repM p l m = true) (hm : 1 ≤ m) (hl : m ≤ l.length) :
    ∃ (q : Nat) (d : Int), l.length = q * m ∧ 1 ≤ q ∧ p = q * d ∧ ∀ k, atF o p l (k + m) = atF o p l k + d ∧ atT o p l (k + m) = atT o p l k + d := by
  obtain ⟨q, d, hq1, hq2, hq3, hq4, hq5, hq6⟩ := rep_spec h hm hl
  refine ⟨q, d, hq1, hq2, hq3, fun k => ?_⟩
  obtain ⟨r, hr, hk⟩ := at_parts k (show 0 < l.length by omega)
  generalize k / (l.length : Int) = s at hk
  subst hk
  obtain ⟨_, _, e1, e2⟩ := at_mk o p s hr
  rw [e1, e2]
  by_cases hrm : r + m < l.length
  · obtain ⟨_, _, e3, e4⟩ := at_mk o p s hrm
    have h1 := hq6 r hrm
    have e : (l.length : Int) * s + r + m = (l.length : Int) * s + ((r + m : Nat) : Int) := by omega
    rw [e, e3, e4, h1.1, h1.2]
    omega
  · have hr' : r + m - l.length < l.length := by omega
    obtain ⟨_, _, e3, e4⟩ := at_mk o p (s + 1) hr'
    have e : (l.length : Int) * s + r + m = (l.length : Int) * (s + 1) + ((r + m - l.length : Nat) : Int) := by rw [Int.mul_add]; omega
    have e5 : r + m - l.length + (q - 1) * m = r := by rw [Nat.sub_mul, ← hq1]; omega
    have h2 := iter_step (n := l.length) hq6 (q - 1) (r + m - l.length) (by rw [e5]; exact hr)
    rw [e5] at h2
    have e6 : ((q - 1 : Nat) : Int) * d = q * d - d := by rw [Int.natCast_sub hq2, Int.sub_mul]; simp
    rw [e6, ← hq3] at h2
    rw [e, e3, e4, h2.1, h2.2, Int.mul_add]
    omega
theorem rep_at {o p d : Int} {l : List Sp} {m : Nat} (q : Nat) (hm : 1 ≤ m) (hq1 : l.length = q * m) (hq : 1 ≤ q) (h : ∀ k, atF o p l (k + m) = atF o p l k + d ∧ atT o p l (k + m) = atT o p l k + d) : repM p l m = true := by
  have hl : 0 < l.length := by rw [hq1]; exact Nat.mul_pos hq hm
  have hit : ∀ a : Nat, atF o p l ((a * m : Nat) : Int) = atF o p l 0 + a * d := by
    intro a
    induction a with
    | zero => simp
    | succ a ih =>
      have h1 := (h ((a * m : Nat) : Int)).1
      have e : (((a + 1) * m : Nat) : Int) = ((a * m : Nat) : Int) + m := by rw [Nat.succ_mul]; omega
      have e2 : ((a + 1 : Nat) : Int) * d = a * d + d := by rw [Int.natCast_add, Int.add_mul]; simp
      rw [e, h1, ih, e2]; omega
  have h1 := (at_add o p hl 0 1).1
  have h2 := hit q
  rw [← hq1] at h2
  have e0 : (0 : Int) + (l.length : Int) * 1 = (l.length : Int) := by omega
  rw [e0, h2] at h1
  refine rep_mk q d hm hq1 hq (by omega) (fun i hi => ?_)
  obtain ⟨_, _, a1, a2⟩ := at_mk o p 0 (show i < l.length by omega)
  obtain ⟨_, _, b1, b2⟩ := at_mk o p 0 hi
  have h3 := h ((l.length : Int) * 0 + i)
  have e : (l.length : Int) * 0 + i + m = (l.length : Int) * 0 + ((i + m : Nat) : Int) := by omega
  rw [e, a1, a2, b1, b2] at h3
  omega
/-- the list of a calendar whose granule 0 is granule n -/
def shl (o p : Int) (l : List Sp) (n : Int) : List Sp := (List.range l.length).map fun (i : Nat) => (atF o p l (n + i) - atF o p l n, atT o p l (n + i) - atF o p l n)
theorem shl_len (o p : Int) (l : List Sp) (n : Int) : (shl o p l n).length = l.length := by simp [shl]
theorem fr_shl (o p : Int) {l : List Sp} (n : Int) {k : Nat} (h : k < l.length) : fr (shl o p l n) k = atF o p l (n + k) - atF o p l n := by
  simp [fr, shl, List.getD_eq_getElem?_getD, List.getElem?_map, List.getElem?_range h]
theorem tt_shl (o p : Int) {l : List Sp} (n : Int) {k : Nat} (h : k < l.length) : tt (shl o p l n) k = atT o p l (n + k) - atF o p l n := by
  simp [tt, shl, List.getD_eq_getElem?_getD, List.getElem?_map, List.getElem?_range h]
theorem sh_at (o p : Int) {l : List Sp} (h0 : 0 < l.length) (n k : Int) : atF (atF o p l n) p (shl o p l n) k = atF o p l (n + k) ∧ atT (atF o p l n) p (shl o p l n) k = atT o p l (n + k) := by
  have hlen := shl_len o p l n
  obtain ⟨r, hr, hk⟩ := at_parts k (show 0 < (shl o p l n).length by omega)
  generalize k / ((shl o p l n).length : Int) = s at hk
  obtain ⟨_, _, e1, e2⟩ := at_mk (atF o p l n) p s hr
  rw [← hk, fr_shl o p n (by omega)] at e1
  rw [← hk, tt_shl o p n (by omega)] at e2
  obtain ⟨a1, a2⟩ := at_add o p h0 (n + r) s
  have e : n + k = n + r + (l.length : Int) * s := by rw [hk, hlen]; omega
  rw [e1, e2, e, a1, a2]
  omega
theorem at_mono {o p : Int} {l : List Sp} (hv : Vd o p l) (k : Int) (j : Nat) : atF o p l k ≤ atF o p l (k + j) := by
  induction j with
  | zero => simp
  | succ j ih =>
    have := at_lt hv (k + j)
    have e : k + ((j + 1 : Nat) : Int) = k + j + 1 := by omega
    rw [e]; omega
theorem sh_bd {o p : Int} {l : List Sp} (hv : Vd o p l) (n : Int) {j : Nat} (hj : j < l.length) :
    0 ≤ fr (shl o p l n) j ∧ fr (shl o p l n) j < tt (shl o p l n) j ∧ tt (shl o p l n) j ≤ p ∧ (0 < j → tt (shl o p l n) (j - 1) ≤ fr (shl o p l n) j) := by
  rw [fr_shl o p n hj, tt_shl o p n hj]
  have h1 := at_mono hv n j
  have h2 := at_lt hv (n + j)
  have h3 := at_mono hv (n + j + 1) (l.length - (j + 1))
  have e : n + j + 1 + ((l.length - (j + 1) : Nat) : Int) = n + (l.length : Int) * 1 := by omega
  rw [e, (at_add o p hv.n0 n 1).1] at h3
  refine ⟨by omega, by omega, by omega, fun h0 => ?_⟩
  rw [tt_shl o p n (by omega)]
  have h4 := at_lt hv (n + (j - 1 : Nat))
  have e2 : n + ((j - 1 : Nat) : Int) + 1 = n + j := by omega
  rw [e2] at h4
  omega
theorem sh_valid {o p : Int} {l : List Sp} (hv : Vd o p l) {n : Int} (hh : halfB (atF o p l n) = true) : Vd (atF o p l n) p (shl o p l n) := by
  have hlen := shl_len o p l n
  have hn0 := hv.n0
  have h5 := hv.n5
  have hp1 := hv.p1
  have hp2 := hv.p2
  have ho := halfB_iff.1 hh
  have hb := fun j (hj : j < l.length) => sh_bd hv n hj
  refine ⟨by omega, by omega, hp1, hp2, ho.1, ho.2, ?_, ?_, ?_, ?_⟩
  · rw [ascB_iff, hlen]
    refine ⟨hn0, fun j hj => ?_⟩
    obtain ⟨b1, b2, b3, b4⟩ := hb j hj
    simp only [ascAt, Bool.and_eq_true, Bool.or_eq_true, decide_eq_true_eq, beq_iff_eq]
    refine ⟨ivB_iff.2 (by omega), ?_⟩
    rcases Nat.eq_zero_or_pos j with h0 | h0
    · exact .inl h0
    · exact .inr (b4 h0)
  · rw [fr_shl o p n hn0]; simp
  · rw [hlen]; exact (hb (l.length - 1) (by omega)).2.2.1
  · obtain ⟨_, _, _, m4⟩ := leastN_spec (p := p) hn0
    rw [hv.least] at m4
    refine leastN_at (by omega) (by omega) (repM_self (by omega)) (fun j hj hj1 => ?_)
    cases hr : repM p (shl o p l n) j with
    | false => rfl
    | true =>
      obtain ⟨q, d, q1, q2, q3, q4⟩ := at_rep (atF o p l n) hr hj1 (by omega)
      have := rep_at (o := o) (p := p) (d := d) (l := l) (m := j) q hj1 (by omega) q2 (fun k => by
        have := q4 (k - n)
        rw [(sh_at o p hn0 n _).1, (sh_at o p hn0 n _).2, (sh_at o p hn0 n _).1, (sh_at o p hn0 n _).2] at this
        have e1 : n + (k - n + j) = k + j := by omega
        have e2 : n + (k - n) = k := by omega
        rw [e1, e2] at this
        exact this)
      rw [m4 j (by omega) hj1] at this
      cases this
theorem list_fr (l : List Sp) {k : Nat} (h : k < l.length) : l[k] = (fr l k, tt l k) := by
  simp [fr, tt, List.getD_eq_getElem?_getD, List.getElem?_eq_getElem h]
theorem list_ext {l l' : List Sp} (h : l.length = l'.length) (he : ∀ k, k < l.length → fr l k = fr l' k ∧ tt l k = tt l' k) : l = l' := by
  refine List.ext_getElem h (fun k h1 h2 => ?_)
  rw [list_fr l h1, list_fr l' h2, (he k h1).1, (he k h1).2]
theorem sh_back {o p : Int} {l : List Sp} (hv : Vd o p l) (n : Int) : atF (atF o p l n) p (shl o p l n) (-n) = o ∧ shl (atF o p l n) p (shl o p l n) (-n) = l := by
  have hn0 := hv.n0
  have hlen := shl_len o p l n
  have h0 := at_mk o p 0 hn0
  have hz : (l.length : Int) * 0 + ((0 : Nat) : Int) = 0 := by omega
  rw [hz, hv.f0] at h0
  have e0 : n + -n = 0 := by omega
  have e1 : atF (atF o p l n) p (shl o p l n) (-n) = o := by rw [(sh_at o p hn0 n _).1, e0]; omega
  refine ⟨e1, list_ext (by rw [shl_len, hlen]) (fun k hk => ?_)⟩
  rw [shl_len, hlen] at hk
  rw [fr_shl _ p _ (by omega), tt_shl _ p _ (by omega), e1, (sh_at o p hn0 n _).1, (sh_at o p hn0 n _).2]
  obtain ⟨_, _, a1, a2⟩ := at_mk o p 0 hk
  have e2 : n + (-n + (k : Int)) = (l.length : Int) * 0 + k := by omega
  rw [e2, a1, a2]
  omega
def ofRO (o p : Int) (l : List Sp) : Int := if ofErr o p l = 0 then o + fr l 0 else 0
def ofRP (o p : Int) (l : List Sp) : Int := if ofErr o p l = 0 then ofP p l else 0
def ofRL (o p : Int) (l : List Sp) : List Sp := if ofErr o p l = 0 then ofL p l else []
/-- a row that steps by j repeats -/
def Step (f g : Int → Int) (j : Nat) : Prop := ∃ d : Int, ∀ k : Int, f (k + j) = f k + d ∧ g (k + j) = g k + d
theorem Step.mul {f g : Int → Int} {j : Nat} (h : Step f g j) (a : Nat) : Step f g (j * a) := by
  induction a with
  | zero => exact ⟨0, fun k => by simp⟩
  | succ a ih =>
    obtain ⟨d, hd⟩ := h
    obtain ⟨c, hc⟩ := ih
    refine ⟨c + d, fun k => ?_⟩
    have h1 := hd (k + ((j * a : Nat) : Int))
    have h2 := hc k
    have e : k + ((j * (a + 1) : Nat) : Int) = k + ((j * a : Nat) : Int) + j := by rw [Nat.mul_succ]; omega
    rw [e, h1.1, h1.2, h2.1, h2.2]; omega
theorem Step.sub {f g : Int → Int} {a b : Nat} (h : Step f g a) (h' : Step f g b) (hab : b ≤ a) : Step f g (a - b) := by
  obtain ⟨d, hd⟩ := h
  obtain ⟨c, hc⟩ := h'
  refine ⟨d - c, fun k => ?_⟩
  have h1 := hd k
  have h2 := hc (k + ((a - b : Nat) : Int))
  have e : k + ((a - b : Nat) : Int) + b = k + a := by omega
  rw [e] at h2
  omega
theorem Step.gcd {f g : Int → Int} : ∀ a b : Nat, Step f g a → Step f g b → Step f g (Nat.gcd a b) := by
  intro a b
  induction a, b using Nat.gcd.induction with
  | H0 n => intro _ h; rw [Nat.gcd_zero_left]; exact h
  | H1 m n hm ih =>
    intro h1 h2
    rw [Nat.gcd_rec]
    refine ih ?_ h1
    have h3 := h2.sub (h1.mul (n / m)) (by have := Nat.mod_add_div n m; omega)
    have e : n - m * (n / m) = n % m := by have := Nat.mod_add_div n m; omega
    rw [← e]; exact h3
theorem step_self (o p : Int) {l : List Sp} (h : 0 < l.length) : Step (atF o p l) (atT o p l) l.length := ⟨p, fun k => by
  have := at_add o p h k 1
  rw [Int.mul_one, Int.mul_one] at this
  exact this⟩
/-- the least step of a row is its list's length -/
theorem step_least {o p : Int} {l : List Sp} (hv : Vd o p l) {j : Nat} (h1 : 1 ≤ j) (hs : Step (atF o p l) (atT o p l) j) : l.length ∣ j := by
  have hg := Step.gcd _ _ hs (step_self o p hv.n0)
  have hd1 : Nat.gcd j l.length ∣ l.length := Nat.gcd_dvd_right _ _
  have hd2 : Nat.gcd j l.length ∣ j := Nat.gcd_dvd_left _ _
  have hpos : 1 ≤ Nat.gcd j l.length := Nat.gcd_pos_of_pos_left _ h1
  have hle : Nat.gcd j l.length ≤ l.length := Nat.le_of_dvd hv.n0 hd1
  generalize Nat.gcd j l.length = g at *
  obtain ⟨q, hq⟩ := hd1
  obtain ⟨d, hd⟩ := hg
  have hq1 : 1 ≤ q := by
    rcases Nat.eq_zero_or_pos q with h | h
    · rw [h] at hq; have := hv.n0; omega
    · exact h
  have hr := rep_at (o := o) (p := p) (d := d) (l := l) (m := g) q hpos (by rw [hq, Nat.mul_comm]) hq1 hd
  obtain ⟨_, _, _, m4⟩ := leastN_spec (p := p) hv.n0
  rw [hv.least] at m4
  rcases Nat.lt_or_ge g l.length with h | h
  · rw [m4 g h hpos] at hr; cases hr
  · have : g = l.length := by omega
    rw [← this]; exact hd2
/-- the first K granules of the row that begins at 0 -/
def repK (p : Int) (l : List Sp) (K : Nat) : List Sp := (List.range K).map fun (i : Nat) => (atF 0 p l i, atT 0 p l i)
theorem repK_len (p : Int) (l : List Sp) (K : Nat) : (repK p l K).length = K := by simp [repK]
theorem repK_fr (p : Int) (l : List Sp) {K k : Nat} (h : k < K) : fr (repK p l K) k = atF 0 p l k := by
  simp [fr, repK, List.getD_eq_getElem?_getD, List.getElem?_map, List.getElem?_range h]
theorem repK_tt (p : Int) (l : List Sp) {K k : Nat} (h : k < K) : tt (repK p l K) k = atT 0 p l k := by
  simp [tt, repK, List.getD_eq_getElem?_getD, List.getElem?_map, List.getElem?_range h]
theorem repK_succ (p : Int) (l : List Sp) (K : Nat) : repK p l (K + 1) = repK p l K ++ [(atF 0 p l K, atT 0 p l K)] := by
  simp [repK, List.range_succ]
/-- granule j of round i -/
theorem repK_next (p : Int) {l : List Sp} {i j : Nat} (hj : j < l.length) : repK p l (i * l.length + j + 1) = repK p l (i * l.length + j) ++ [(fr l j + i * p, tt l j + i * p)] := by
  rw [repK_succ]
  obtain ⟨_, _, e1, e2⟩ := at_mk 0 p (i : Int) hj
  have e : ((i * l.length + j : Nat) : Int) = (l.length : Int) * i + j := by rw [Int.natCast_add, Int.natCast_mul, Int.mul_comm]
  rw [e, e1, e2, Int.mul_comm]
  simp
theorem repK_at (o p : Int) {l : List Sp} (h0 : 0 < l.length) {m : Nat} (hm : 1 ≤ m) (k : Int) : atF o (m * p) (repK p l (m * l.length)) k = atF o p l k ∧ atT o (m * p) (repK p l (m * l.length)) k = atT o p l k := by
  have hpos : 0 < m * l.length := Nat.mul_pos hm h0
  have hlen := repK_len p l (m * l.length)
  obtain ⟨r, hr, hk⟩ := at_parts k (show 0 < (repK p l (m * l.length)).length by omega)
  generalize k / ((repK p l (m * l.length)).length : Int) = s at hk
  obtain ⟨_, _, e1, e2⟩ := at_mk o (m * p) s hr
  rw [hlen] at hr hk e1 e2
  rw [hk, e1, e2, repK_fr p l hr, repK_tt p l hr]
  have e : ((m * l.length : Nat) : Int) * s + (r : Int) = r + (l.length : Int) * (m * s) := by rw [Int.natCast_mul]; grind
  rw [e, (at_add o p h0 r _).1, (at_add o p h0 r _).2]
  have e3 : ∀ x : Int, atF o p l x = atF 0 p l x + o := fun x => by simp only [atF]; omega
  have e4 : ∀ x : Int, atT o p l x = atT 0 p l x + o := fun x => by simp only [atT]; omega
  rw [e3, e4]
  have e5 : (m : Int) * p * s = p * (m * s) := by grind
  rw [e5]; omega
theorem rep_of {o p : Int} {l : List Sp} (hv : validB o p l = true) {m : Nat} (hm : 1 ≤ m) (hn : m * l.length ≤ 5000) (hp : (m : Int) * p ≤ 12622780800) :
    ofRO o (m * p) (repK p l (m * l.length)) = o ∧ ofRP o (m * p) (repK p l (m * l.length)) = p ∧ ofRL o (m * p) (repK p l (m * l.length)) = l ∧ ofErr o (m * p) (repK p l (m * l.length)) = 0 := by
  have hd := Vd.of hv
  have h0 := hd.n0
  have hz : Vd 0 p l := { hd with o1 := by omega, o2 := by omega }
  have hK : 0 < m * l.length := Nat.mul_pos hm h0
  have hlen := repK_len p l (m * l.length)
  have hp1 := hd.p1
  have hmp : p ≤ m * p := by
    have : 1 * p ≤ (m : Int) * p := Int.mul_le_mul_of_nonneg_right (by omega) (by omega)
    omega
  have hf0 : atF 0 p l 0 = 0 := by
    have := (at_mk 0 p 0 h0).2.2.1
    rw [hd.f0] at this
    simpa using this
  have hfK : atF 0 p l ((m * l.length : Nat) : Int) = m * p := by
    have := (at_add 0 p h0 0 m).1
    have e : (0 : Int) + (l.length : Int) * m = ((m * l.length : Nat) : Int) := by rw [Int.natCast_mul]; grind
    rw [e, hf0] at this
    rw [this, Int.mul_comm]; omega
  have hlow : ∀ k : Nat, 0 ≤ atF 0 p l k := fun k => by
    have := at_mono hz 0 k
    rw [hf0] at this
    simpa using this
  have hhigh : ∀ k : Nat, k < m * l.length → atT 0 p l k ≤ m * p := fun k hk => by
    have h1 := (at_lt hz k).2
    have h2 := at_mono hz (k + 1) (m * l.length - (k + 1))
    have e : (k : Int) + 1 + ((m * l.length - (k + 1) : Nat) : Int) = ((m * l.length : Nat) : Int) := by omega
    rw [e, hfK] at h2
    omega
  have hfr0 : fr (repK p l (m * l.length)) 0 = 0 := by rw [repK_fr p l hK]; exact hf0
  have hshift : shiftL (repK p l (m * l.length)) 0 = repK p l (m * l.length) := by simp [shiftL]
  have hleast : leastN (m * p) (repK p l (m * l.length)) = l.length := by
    refine leastN_at h0 (by rw [hlen]; exact Nat.le_mul_of_pos_left _ hm) ?_ (fun j hj hj1 => ?_)
    · refine rep_at (o := o) (d := p) m h0 hlen hm (fun k => ?_)
      rw [(repK_at o p h0 hm _).1, (repK_at o p h0 hm _).2, (repK_at o p h0 hm _).1, (repK_at o p h0 hm _).2]
      have := at_add o p h0 k 1
      rw [Int.mul_one, Int.mul_one] at this
      exact this
    · cases hr : repM (m * p) (repK p l (m * l.length)) j with
      | false => rfl
      | true =>
        exfalso
        have hjl : j ≤ (repK p l (m * l.length)).length := by
          rw [hlen]; exact Nat.le_trans (by omega) (Nat.le_mul_of_pos_left _ hm)
        obtain ⟨q, d, q1, q2, q3, q4⟩ := at_rep o hr hj1 hjl
        have hs : Step (atF o p l) (atT o p l) j := ⟨d, fun k => by
          have := q4 k
          rw [(repK_at o p h0 hm _).1, (repK_at o p h0 hm _).2, (repK_at o p h0 hm _).1, (repK_at o p h0 hm _).2] at this
          exact this⟩
        have := Nat.le_of_dvd hj1 (step_least hd hj1 hs)
        omega
  have hofM : ofM (m * p) (repK p l (m * l.length)) = l.length := by rw [ofM, hfr0, hshift, hleast]
  have hok : OfOkB o (m * p) (repK p l (m * l.length)) := by
    refine ⟨by omega, hp, ?_, ?_, by omega, lineB_iff.2 (by have := hd.o1; have := hd.o2; omega), ?_⟩
    · rw [ascB_iff, hlen]
      refine ⟨hK, fun j hj => ?_⟩
      simp only [ascAt, Bool.and_eq_true, Bool.or_eq_true, decide_eq_true_eq, beq_iff_eq]
      rw [repK_fr p l hj, repK_tt p l hj]
      have h1 := hlow j
      have h2 := at_lt hz j
      have h3 := hhigh j hj
      refine ⟨ivB_iff.2 (by omega), ?_⟩
      rcases Nat.eq_zero_or_pos j with hj0 | hj0
      · exact .inl hj0
      · right
        rw [repK_tt p l (by omega)]
        have h4 := (at_lt hz ((j - 1 : Nat) : Int)).2
        have e : ((j - 1 : Nat) : Int) + 1 = j := by omega
        rw [e] at h4
        exact h4
    · rw [hlen, hfr0, repK_tt p l (by omega)]
      have := hhigh (m * l.length - 1) (by omega)
      omega
    · rw [hfr0]; exact halfB_iff.2 (by have := hd.o1; have := hd.o2; omega)
  have herr := ofErr_zero.2 hok
  refine ⟨?_, ?_, ?_, herr⟩
  · rw [ofRO, if_pos herr, hfr0]; omega
  · rw [ofRP, if_pos herr, ofP, hofM, hlen]
    have e : (((m * l.length : Nat) : Int) / (l.length : Int)) = m := by rw [Int.natCast_mul]; exact Int.mul_ediv_cancel _ (by omega)
    rw [e]; exact Int.mul_ediv_cancel_left _ (by omega)
  · rw [ofRL, if_pos herr, ofL, hofM, hfr0, hshift]
    refine list_ext (by rw [List.length_take, hlen]; exact Nat.min_eq_left (Nat.le_mul_of_pos_left _ hm)) (fun k hk => ?_)
    have hk' : k < l.length := by rw [List.length_take] at hk; omega
    have hk2 : k < m * l.length := Nat.lt_of_lt_of_le hk' (Nat.le_mul_of_pos_left _ hm)
    rw [fr_take hk', tt_take hk', repK_fr p l hk2, repK_tt p l hk2]
    obtain ⟨_, _, e1, e2⟩ := at_mk 0 p 0 hk'
    have e : (l.length : Int) * 0 + (k : Int) = k := by omega
    rw [e] at e1 e2
    rw [e1, e2]; omega
theorem same_cal {o p o' p' : Int} {l l' : List Sp} (hv : Vd o p l) (hv' : Vd o' p' l') (h : ∀ k : Nat, k ≤ l.length * l'.length → atF o p l k = atF o' p' l' k ∧ atT o p l k = atT o' p' l' k) : o = o' ∧ p = p' ∧ l = l' := by
  have h0 := hv.n0
  have h0' := hv'.n0
  have hz : ∀ {o p : Int} {l : List Sp}, Vd o p l → atF o p l 0 = o := fun {o p l} hv => by
    have := (at_mk o p 0 hv.n0).2.2.1
    rw [hv.f0] at this
    simpa using this
  have ho : o = o' := by
    have := (h 0 (by omega)).1
    rw [show ((0 : Nat) : Int) = 0 from rfl, hz hv, hz hv'] at this
    exact this
  have e1 := (at_add o p h0 0 l'.length).1
  have e2 := (at_add o' p' h0' 0 l.length).1
  have hNM := (h _ (Nat.le_refl _)).1
  have c1 : (0 : Int) + (l.length : Int) * (l'.length : Int) = ((l.length * l'.length : Nat) : Int) := by rw [Int.natCast_mul]; omega
  have c2 : (0 : Int) + (l'.length : Int) * (l.length : Int) = ((l.length * l'.length : Nat) : Int) := by rw [Int.natCast_mul]; grind
  rw [c1] at e1
  rw [c2] at e2
  rw [hz hv] at e1
  rw [hz hv'] at e2
  have hpp : p * (l'.length : Int) = p' * (l.length : Int) := by omega
  have hall : ∀ k : Int, atF o p l k = atF o' p' l' k ∧ atT o p l k = atT o' p' l' k := fun k => by
    have hW : 0 < l.length * l'.length := Nat.mul_pos h0 h0'
    obtain ⟨r, hr, hk⟩ : ∃ r : Nat, r < l.length * l'.length ∧ k = ((l.length * l'.length : Nat) : Int) * (k / ((l.length * l'.length : Nat) : Int)) + r := by
      have hm := div_bd (a := k) (b := ((l.length * l'.length : Nat) : Int)) (by omega)
      have := Int.emod_add_mul_ediv k ((l.length * l'.length : Nat) : Int)
      exact ⟨(k % ((l.length * l'.length : Nat) : Int)).toNat, by omega, by omega⟩
    generalize k / ((l.length * l'.length : Nat) : Int) = s at hk
    have a1 := at_add o p h0 r (l'.length * s)
    have a2 := at_add o' p' h0' r (l.length * s)
    have d1 : (r : Int) + (l.length : Int) * (l'.length * s) = k := by rw [hk, Int.natCast_mul]; grind
    have d2 : (r : Int) + (l'.length : Int) * (l.length * s) = k := by rw [hk, Int.natCast_mul]; grind
    have d3 : p * ((l'.length : Int) * s) = p' * ((l.length : Int) * s) := by rw [← Int.mul_assoc, ← Int.mul_assoc, hpp]
    rw [d1] at a1
    rw [d2] at a2
    have := h r (by omega)
    rw [a1.1, a1.2, a2.1, a2.2, this.1, this.2, d3]
    exact ⟨rfl, rfl⟩
  have hs : Step (atF o p l) (atT o p l) l'.length := by
    obtain ⟨d, hd⟩ := step_self o' p' h0'
    exact ⟨d, fun k => by rw [(hall _).1, (hall _).2, (hall _).1, (hall _).2]; exact hd k⟩
  have hs' : Step (atF o' p' l') (atT o' p' l') l.length := by
    obtain ⟨d, hd⟩ := step_self o p h0
    exact ⟨d, fun k => by rw [← (hall _).1, ← (hall _).2, ← (hall _).1, ← (hall _).2]; exact hd k⟩
  have hl : l.length = l'.length := Nat.dvd_antisymm (step_least hv h0' hs) (step_least hv' h0 hs')
  have hp : p = p' := by
    rw [hl] at hpp
    exact Int.eq_of_mul_eq_mul_right (by omega) hpp
  refine ⟨ho, hp, list_ext hl (fun k hk => ?_)⟩
  obtain ⟨_, _, b1, b2⟩ := at_mk o p 0 hk
  obtain ⟨_, _, b3, b4⟩ := at_mk o' p' 0 (show k < l'.length by omega)
  have e : (l.length : Int) * 0 + (k : Int) = k := by omega
  have e' : (l'.length : Int) * 0 + (k : Int) = k := by omega
  rw [e] at b1 b2
  rw [e'] at b3 b4
  have := hall k
  omega
end Go.Proofs.YtmnhfaaaaejpaaaGreat
