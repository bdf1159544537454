/-
  Calendars: plain law (out of the walks of chapter 15). No program here.
-/
import Derived.Test.YtmnhfaaaaejpaaaLift
namespace Go.Proofs.Ytmnhfaaaaejpaaa
open Go.RowKit

theorem tdiv_neg' (a b : Int) (ha : a < 0) (hb : 1 ≤ b) (hr : a.tmod b ≠ 0) : a.tdiv b - 1 = a / b := by
  rw [Int.tdiv_eq_ediv, if_neg]
  · have := Int.sign_eq_one_of_pos (by omega : 0 < b); omega
  · rintro (h | h)
    · omega
    · exact hr (Int.tmod_eq_zero_of_dvd h)
theorem tmod_neg' (a b : Int) (ha : a < 0) (hb : 1 ≤ b) (hr : a.tmod b ≠ 0) : a.tmod b + b = a % b := by
  have h1 := tdiv_neg' a b ha hb hr
  have h2 := Int.tmod_add_mul_tdiv a b
  have h3 := Int.emod_add_mul_ediv a b
  rw [← h1] at h3
  have h4 : b * (a.tdiv b - 1) = b * a.tdiv b - b := by rw [Int.mul_sub]; omega
  omega
theorem tdiv_zero' (a b : Int) (_hb : 1 ≤ b) (hr : a.tmod b = 0) : a.tdiv b = a / b := by
  rw [Int.tdiv_eq_ediv, if_pos (.inr (Int.dvd_of_tmod_eq_zero hr))]; omega
theorem tmod_zero' (a b : Int) (hr : a.tmod b = 0) : (0 : Int) = a % b := by
  have := Int.emod_eq_zero_of_dvd (Int.dvd_of_tmod_eq_zero hr); omega
theorem tmod_bd (a b : Int) (ha : a < 0) (hb : 1 ≤ b) : -b < a.tmod b ∧ a.tmod b ≤ 0 := by
  have h1 := Int.lt_tmod_of_pos a (by omega : 0 < b)
  have h2 : a.tmod b ≤ 0 := by
    have := Int.tmod_nonneg b (by omega : 0 ≤ -a)
    rw [Int.neg_tmod] at this; omega
  omega
theorem tdiv_bd (a b : Int) (ha : a < 0) (hb : 1 ≤ b) : a ≤ a.tdiv b ∧ a.tdiv b ≤ 0 := by
  have h0 : (-a).tdiv b = (-a) / b := Int.tdiv_eq_ediv_of_nonneg (by omega)
  have h1 : a.tdiv b = -((-a) / b) := by rw [← h0, Int.neg_tdiv]; omega
  have h2 : 0 ≤ (-a) / b := Int.ediv_nonneg (by omega) (by omega)
  have h3 : (-a) / b ≤ -a := Int.ediv_le_self _ (by omega)
  omega
theorem div_bd {a b : Int} (hb : 1 ≤ b) : 0 ≤ a % b ∧ a % b < b := ⟨Int.emod_nonneg _ (by omega), Int.emod_lt_of_pos _ (by omega)⟩
def lineB (x : Int) : Bool := decide (-4398046511104 ≤ x) && decide (x ≤ 4398046511104)
def halfB (x : Int) : Bool := decide (-2199023255552 ≤ x) && decide (x ≤ 2199023255552)
def ivB (a b : Int) : Bool := lineB a && (lineB b && decide (a < b))
theorem halfB_iff {x : Int} : halfB x = true ↔ -2199023255552 ≤ x ∧ x ≤ 2199023255552 := by simp [halfB]
/-- span k is valid, and begins where the one before ends, or later -/
def ascAt (l : List Sp) (k : Nat) : Bool := ivB (fr l k) (tt l k) && (k == 0 || decide (tt l (k - 1) ≤ fr l k))
def ascB (l : List Sp) : Bool := (List.range l.length).all (ascAt l) && decide (0 < l.length)
/-- span i+m is span i, d further on -/
def eqAt (d : Int) (l : List Sp) (m i : Nat) : Bool := fr l (i + m) == fr l i + d && tt l (i + m) == tt l i + d
/-- the list is the one of its first m spans, repeated -/
def repM (p : Int) (l : List Sp) (m : Nat) : Bool :=
  l.length % m == 0 && (p % ((l.length / m : Nat) : Int) == 0 && (List.range (l.length - m)).all (eqAt (p / ((l.length / m : Nat) : Int)) l m))
def leastN (p : Int) (l : List Sp) : Nat := (((List.range l.length).find? fun j => repM p l (j + 1)).map (· + 1)).getD l.length
theorem repM_f1 {p : Int} {l : List Sp} {m : Nat} (h : ¬ l.length % m = 0) : repM p l m = false := by simp [repM, h]
theorem repM_f2 {p : Int} {l : List Sp} {m : Nat} (h : ¬ p % ((l.length / m : Nat) : Int) = 0) : repM p l m = false := by
  simp [repM]; intro _ h'; exact absurd h' (by simpa using h)
theorem repM_t {p : Int} {l : List Sp} {m : Nat} (h1 : l.length % m = 0) (h2 : p % ((l.length / m : Nat) : Int) = 0) (h3 : ∀ i, i < l.length - m → eqAt (p / ((l.length / m : Nat) : Int)) l m i = true) : repM p l m = true := by
  have : (List.range (l.length - m)).all (eqAt (p / ((l.length / m : Nat) : Int)) l m) = true := by
    rw [List.all_eq_true]; intro i hi; exact h3 i (by simpa using hi)
  simp only [repM, this, h1, h2]; rfl
theorem repM_parts {p : Int} {l : List Sp} {m : Nat} (h : repM p l m = true) : l.length % m = 0 ∧ p % ((l.length / m : Nat) : Int) = 0 ∧ ∀ i, i + m < l.length → eqAt (p / ((l.length / m : Nat) : Int)) l m i = true := by
  simp only [repM, Bool.and_eq_true, List.all_eq_true, List.mem_range, beq_iff_eq] at h
  exact ⟨h.1, h.2.1, fun i hi => h.2.2 i (by omega)⟩
def validB (o p : Int) (l : List Sp) : Bool :=
  decide (1 ≤ l.length) && (decide (l.length ≤ 5000) && (decide (1 ≤ p) && (decide (p ≤ 12622780800) && (halfB o && (ascB l && (fr l 0 == 0 && (decide (tt l (l.length - 1) ≤ p) && leastN p l == l.length)))))))
theorem repM_eq {p : Int} {l : List Sp} {m : Nat} (h1 : l.length % m = 0) (h2 : p % ((l.length / m : Nat) : Int) = 0) (h3 : ∀ i, i + m < l.length → eqAt (p / ((l.length / m : Nat) : Int)) l m i = true) : true = repM p l m :=
  (repM_t h1 h2 (fun i hi => h3 i (by omega))).symm
def atF (o p : Int) (l : List Sp) (k : Int) : Int := fr l (k % (l.length : Int)).toNat + (o + p * (k / (l.length : Int)))
def atT (o p : Int) (l : List Sp) (k : Int) : Int := tt l (k % (l.length : Int)).toNat + (o + p * (k / (l.length : Int)))
/-- what makes a calendar valid, in pieces -/
structure Vd (o p : Int) (l : List Sp) : Prop where
  n0 : 0 < l.length
  n5 : l.length ≤ 5000
  p1 : 1 ≤ p
  p2 : p ≤ 12622780800
  o1 : -2199023255552 ≤ o
  o2 : o ≤ 2199023255552
  asc : ascB l = true
  f0 : fr l 0 = 0
  tl : tt l (l.length - 1) ≤ p
  least : leastN p l = l.length
theorem Vd.of {o p : Int} {l : List Sp} (h : validB o p l = true) : Vd o p l := by
  simp only [validB, Bool.and_eq_true, decide_eq_true_eq, beq_iff_eq] at h
  obtain ⟨h1, h2, h3, h4, h5, h6, h7, h8, h9⟩ := h
  have := halfB_iff.1 h5
  exact ⟨h1, h2, h3, h4, this.1, this.2, h6, h7, h8, h9⟩
theorem Vd.back {o p : Int} {l : List Sp} (h : Vd o p l) : validB o p l = true := by
  simp only [validB, Bool.and_eq_true, decide_eq_true_eq, beq_iff_eq]
  exact ⟨h.n0, h.n5, h.p1, h.p2, halfB_iff.2 ⟨h.o1, h.o2⟩, h.asc, h.f0, h.tl, h.least⟩
/-- the last of the first n spans that begins at r or before; 0 if none -/
def lastTo (l : List Sp) (r : Int) : Nat → Nat
  | 0 => 0
  | n + 1 => if fr l n ≤ r then n else lastTo l r n
def nearN (o p : Int) (l : List Sp) (x : Int) : Int := (l.length : Int) * ((x - o) / p) + (lastTo l ((x - o) % p) l.length : Int)
/-- where Of succeeds -/
structure OfOkB (o p : Int) (l : List Sp) : Prop where
  p1 : 1 ≤ p
  p2 : p ≤ 12622780800
  asc : ascB l = true
  fit : tt l (l.length - 1) - fr l 0 ≤ p
  n5 : l.length ≤ 5000
  line : lineB o = true
  half : halfB (o + fr l 0) = true
theorem lastTo_lt {l : List Sp} {r : Int} : ∀ n, 0 < n → lastTo l r n < n := by
  intro n
  induction n with
  | zero => omega
  | succ n ih =>
    intro _
    unfold lastTo
    split
    · omega
    · rcases Nat.eq_zero_or_pos n with h | h
      · subst h; simp [lastTo]
      · have := ih h; omega
theorem nearN_div {o p x : Int} {l : List Sp} (h : 0 < l.length) : nearN o p l x / (l.length : Int) = (x - o) / p ∧ nearN o p l x % (l.length : Int) = (lastTo l ((x - o) % p) l.length : Int) := by
  have hl := lastTo_lt (l := l) (r := (x - o) % p) l.length h
  unfold nearN
  generalize lastTo l ((x - o) % p) l.length = t at *
  constructor
  · rw [Int.add_comm, Int.add_mul_ediv_left _ _ (by omega), Int.ediv_eq_zero_of_lt (by omega) (by omega)]; omega
  · rw [Int.mul_add_emod_self_left, Int.emod_eq_of_lt (by omega) (by omega)]
theorem at_mk (o p : Int) {l : List Sp} (q : Int) {r : Nat} (hr : r < l.length) : ((l.length : Int) * q + r) / (l.length : Int) = q ∧ ((l.length : Int) * q + r) % (l.length : Int) = r ∧
    atF o p l ((l.length : Int) * q + r) = fr l r + (o + p * q) ∧ atT o p l ((l.length : Int) * q + r) = tt l r + (o + p * q) := by
  have e1 : ((l.length : Int) * q + r) / (l.length : Int) = q := by
    rw [Int.add_comm, Int.add_mul_ediv_left _ _ (by omega), Int.ediv_eq_zero_of_lt (by omega) (by omega)]; omega
  have e2 : ((l.length : Int) * q + r) % (l.length : Int) = r := by
    rw [Int.add_comm, Int.add_mul_emod_self_left, Int.emod_eq_of_lt (by omega) (by omega)]
  refine ⟨e1, e2, ?_, ?_⟩
  · rw [atF, e1, e2]; rfl
  · rw [atT, e1, e2]; rfl
/-- a row that steps by j repeats -/
def Step (f g : Int → Int) (j : Nat) : Prop := ∃ d : Int, ∀ k : Int, f (k + j) = f k + d ∧ g (k + j) = g k + d
theorem Step.mul {f g : Int → Int} {j : Nat} (h : Step f g j) (a : Nat) : Step f g (j * a) := by
  induction a with
  | zero => exact ⟨0, fun k => by simp⟩
  | succ a ih =>
    obtain ⟨d, hd⟩ := h
    obtain ⟨c, hc⟩ := ih
    refine ⟨c + d, fun k => ?_⟩
    have h1 := hd (k + ((j * a : Nat) : Int))
    have h2 := hc k
    have e : k + ((j * (a + 1) : Nat) : Int) = k + ((j * a : Nat) : Int) + j := by rw [Nat.mul_succ]; omega
    rw [e, h1.1, h1.2, h2.1, h2.2]; omega
theorem Step.sub {f g : Int → Int} {a b : Nat} (h : Step f g a) (h' : Step f g b) (hab : b ≤ a) : Step f g (a - b) := by
  obtain ⟨d, hd⟩ := h
  obtain ⟨c, hc⟩ := h'
  refine ⟨d - c, fun k => ?_⟩
  have h1 := hd k
  have h2 := hc (k + ((a - b : Nat) : Int))
  have e : k + ((a - b : Nat) : Int) + b = k + a := by omega
  rw [e] at h2
  omega
end Go.Proofs.Ytmnhfaaaaejpaaa
