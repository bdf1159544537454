/-
  Plain laws of a scaled calendar.
-/
import Derived.Test.YtnieceplfjmocaaPer
namespace Go.Proofs.Ytnieceplfjmocaa

def scl (n : Int) (l : List Sp) : List Sp := l.map fun s => (s.1 * n, s.2 * n)
theorem scl_len (n : Int) (l : List Sp) : (scl n l).length = l.length := by simp [scl]
theorem fr_scl (n : Int) {l : List Sp} {k : Nat} (h : k < l.length) : fr (scl n l) k = fr l k * n := by
  simp [fr, scl, List.getD_eq_getElem?_getD, List.getElem?_map, List.getElem?_eq_getElem h]
theorem tt_scl (n : Int) {l : List Sp} {k : Nat} (h : k < l.length) : tt (scl n l) k = tt l k * n := by
  simp [tt, scl, List.getD_eq_getElem?_getD, List.getElem?_map, List.getElem?_eq_getElem h]
theorem scl_take (n : Int) {l : List Sp} {k : Nat} (h : k < l.length) : scl n (l.take (k + 1)) = scl n (l.take k) ++ [(fr l k * n, tt l k * n)] := by
  rw [List.take_succ_eq_append_getElem h, list_fr l h]; simp [scl]

def scE (o p : Int) (l : List Sp) (n : Int) : Int := if validB o p l then (if n < 1 then 2 else if 12622780800 / p < n then 9 else if halfB (o * n) then 0 else 2) else 1
def scO (o p : Int) (l : List Sp) (n : Int) : Int := if scE o p l n = 0 then o * n else 0
def scP (o p : Int) (l : List Sp) (n : Int) : Int := if scE o p l n = 0 then p * n else 0
def scL (o p : Int) (l : List Sp) (n : Int) : List Sp := if scE o p l n = 0 then scl n l else []
theorem sc_err {o p n E : Int} {l : List Sp} (h : scE o p l n = E) (h0 : E ≠ 0) : scE o p l n = E ∧ scO o p l n = 0 ∧ scP o p l n = 0 ∧ scL o p l n = [] := by
  simp [scO, scP, scL, h, h0]
theorem sc_ok {o p n : Int} {l : List Sp} (h : scE o p l n = 0) : scO o p l n = o * n ∧ scP o p l n = p * n ∧ scL o p l n = scl n l := by
  simp [scO, scP, scL, h]

theorem half_mul {o n : Int} (hn : 1 ≤ n) : (o ≤ 2199023255552 / n ∧ -(2199023255552 / n) ≤ o) ↔ halfB (o * n) = true := by
  rw [halfB_iff, Int.le_ediv_iff_mul_le (by omega)]
  have h : (-(2199023255552 / n) ≤ o) ↔ -2199023255552 ≤ o * n := by
    have h1 : (-o ≤ 2199023255552 / n) ↔ -o * n ≤ 2199023255552 := Int.le_ediv_iff_mul_le (by omega)
    rw [Int.neg_mul] at h1
    omega
  rw [h]
  omega

/-- what makes scaling succeed -/
theorem sc_parts {o p n : Int} {l : List Sp} (h : scE o p l n = 0) : validB o p l = true ∧ 1 ≤ n ∧ p * n ≤ 12622780800 ∧ halfB (o * n) = true ∧ n ≤ 12622780800 := by
  cases hv : validB o p l with
  | false => rw [scE, hv] at h; simp at h
  | true =>
    have hd := Vd.of hv
    have hp := hd.p1
    rw [scE, hv] at h
    simp only [if_true] at h
    split at h
    · omega
    · rename_i h1
      split at h
      · omega
      · rename_i h2
        split at h
        · rename_i h3
          have h4 : n ≤ 12622780800 / p := by omega
          have h5 := (Int.le_ediv_iff_mul_le (show 0 < p by omega)).1 h4
          have h6 : 12622780800 / p ≤ 12622780800 := Int.ediv_le_self _ (by omega)
          exact ⟨rfl, by omega, by rw [Int.mul_comm]; exact h5, h3, by omega⟩
        · omega

theorem sc_at (o p n : Int) {l : List Sp} (h0 : 0 < l.length) (k : Int) : atF (o * n) (p * n) (scl n l) k = atF o p l k * n ∧ atT (o * n) (p * n) (scl n l) k = atT o p l k * n := by
  obtain ⟨r, hr, hk⟩ := at_parts k h0
  generalize k / (l.length : Int) = q at hk
  subst hk
  obtain ⟨_, _, a1, a2⟩ := at_mk o p q hr
  obtain ⟨_, _, b1, b2⟩ := at_mk (o * n) (p * n) (l := scl n l) q (by rw [scl_len]; exact hr)
  rw [scl_len, fr_scl n hr] at b1
  rw [scl_len, tt_scl n hr] at b2
  have e : p * n * q = p * q * n := by rw [Int.mul_assoc, Int.mul_comm n q, ← Int.mul_assoc]
  rw [a1, a2, b1, b2, e]
  exact ⟨by rw [Int.add_mul, Int.add_mul], by rw [Int.add_mul, Int.add_mul]⟩

theorem mul_lt {a b n : Int} (hn : 1 ≤ n) (h : a < b) : a * n < b * n := Int.mul_lt_mul_of_pos_right h (by omega)
theorem mul_le {a b n : Int} (hn : 1 ≤ n) (h : a ≤ b) : a * n ≤ b * n := Int.mul_le_mul_of_nonneg_right h (by omega)

theorem sc_bd {o p n : Int} {l : List Sp} (hv : Vd o p l) (hn : 1 ≤ n) (hp : p * n ≤ 12622780800) {k : Nat} (hk : k < l.length) : 0 ≤ fr l k * n ∧ fr l k * n < tt l k * n ∧ tt l k * n ≤ 12622780800 := by
  obtain ⟨h1, h2, h3⟩ := hv.bd hk
  have e1 := mul_le hn h1
  have e2 := mul_lt hn h2
  have e3 := mul_le hn h3
  omega

theorem sc_valid {o p n : Int} {l : List Sp} (hv : Vd o p l) (hn : 1 ≤ n) (hp : p * n ≤ 12622780800) (hh : halfB (o * n) = true) : Vd (o * n) (p * n) (scl n l) := by
  have hn0 := hv.n0
  have hp1 := hv.p1
  have hlen := scl_len n l
  have ho := halfB_iff.1 hh
  have hpn := mul_le hn hp1
  refine ⟨by omega, by have := hv.n5; omega, by omega, hp, ho.1, ho.2, ?_, ?_, ?_, ?_⟩
  · rw [ascB_iff, hlen]
    refine ⟨hn0, fun j hj => ?_⟩
    obtain ⟨b1, b2, b3⟩ := sc_bd hv hn hp hj
    have h5 := (ascB_iff.1 hv.asc).2 j hj
    simp only [ascAt, Bool.and_eq_true, Bool.or_eq_true, decide_eq_true_eq, beq_iff_eq] at h5 ⊢
    rw [fr_scl n hj, tt_scl n hj]
    refine ⟨ivB_iff.2 (by omega), ?_⟩
    rcases h5.2 with h | h
    · exact .inl h
    · right
      rw [tt_scl n (by omega)]
      exact mul_le hn h
  · rw [fr_scl n hn0, hv.f0]; simp
  · rw [hlen, tt_scl n (by omega)]
    exact mul_le hn hv.tl
  · obtain ⟨_, _, _, m4⟩ := leastN_spec (p := p) hn0
    rw [hv.least] at m4
    refine leastN_at (by omega) (by omega) (repM_self (by omega)) (fun j hj hj1 => ?_)
    cases hr : repM (p * n) (scl n l) j with
    | false => rfl
    | true =>
      obtain ⟨q, d, q1, q2, q3, _, _, q6⟩ := rep_spec hr hj1 (by omega)
      rw [hlen] at q1 q6
      have h0 := q6 0 (by omega)
      simp only [Nat.zero_add] at h0
      rw [fr_scl n (by omega), fr_scl n hn0, hv.f0] at h0
      have hd : d = fr l j * n := by have := h0.1; omega
      have hp' : p = q * fr l j := by
        rw [hd, ← Int.mul_assoc] at q3
        exact Int.eq_of_mul_eq_mul_right (by omega) q3
      have := rep_mk (p := p) (l := l) (m := j) q (fr l j) hj1 q1 q2 hp' (fun i hi => by
        have h1 := q6 i hi
        rw [fr_scl n hi, fr_scl n (by omega), tt_scl n hi, tt_scl n (by omega), hd, ← Int.add_mul, ← Int.add_mul] at h1
        exact ⟨Int.eq_of_mul_eq_mul_right (by omega) h1.1, Int.eq_of_mul_eq_mul_right (by omega) h1.2⟩)
      rw [m4 j (by omega) hj1] at this
      cases this
end Go.Proofs.Ytnieceplfjmocaa
