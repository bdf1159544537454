/-
  Plain laws of granules: the next granule, the last that begins before an integer.
-/
import Derived.Test.YtnieceplfjmocaaRFind
import Derived.Test.YtnieceplfjmocaaSame
namespace Go.Proofs.Ytnieceplfjmocaa

theorem at_mk (o p : Int) {l : List Sp} (q : Int) {r : Nat} (hr : r < l.length) : ((l.length : Int) * q + r) / (l.length : Int) = q ∧ ((l.length : Int) * q + r) % (l.length : Int) = r ∧
    atF o p l ((l.length : Int) * q + r) = fr l r + (o + p * q) ∧ atT o p l ((l.length : Int) * q + r) = tt l r + (o + p * q) := by
  have e1 : ((l.length : Int) * q + r) / (l.length : Int) = q := by
    rw [Int.add_comm, Int.add_mul_ediv_left _ _ (by omega), Int.ediv_eq_zero_of_lt (by omega) (by omega)]; omega
  have e2 : ((l.length : Int) * q + r) % (l.length : Int) = r := by
    rw [Int.add_comm, Int.add_mul_emod_self_left, Int.emod_eq_of_lt (by omega) (by omega)]
  refine ⟨e1, e2, ?_, ?_⟩
  · rw [atF, e1, e2]; rfl
  · rw [atT, e1, e2]; rfl

theorem at_parts (k : Int) {l : List Sp} (h : 0 < l.length) : ∃ r : Nat, r < l.length ∧ k = (l.length : Int) * (k / (l.length : Int)) + r := by
  have hm := div_bd (a := k) (b := (l.length : Int)) (by omega)
  have := Int.emod_add_mul_ediv k (l.length : Int)
  exact ⟨(k % (l.length : Int)).toNat, by omega, by omega⟩

theorem next_bd {o p : Int} {l : List Sp} (hv : Vd o p l) {r : Nat} (hr : r < l.length) : tt l r ≤ nextAt p l r ∧ nextAt p l r ≤ p := by
  unfold nextAt
  split
  · rename_i h
    have h5 := (ascB_iff.1 hv.asc).2 (r + 1) h
    simp only [ascAt, Bool.and_eq_true, Bool.or_eq_true, decide_eq_true_eq, beq_iff_eq] at h5
    have hb := hv.bd h
    refine ⟨?_, by omega⟩
    rcases h5.2 with h | h
    · omega
    · exact h
  · have : r = l.length - 1 := by omega
    subst this
    exact ⟨hv.tl, Int.le_refl _⟩

theorem at_next {o p : Int} {l : List Sp} (hv : Vd o p l) (q : Int) {r : Nat} (hr : r < l.length) : atF o p l ((l.length : Int) * q + r + 1) = nextAt p l r + (o + p * q) := by
  unfold nextAt
  split
  · rename_i h
    have := (at_mk o p q h).2.2.1
    rw [← this]
    congr 1
    omega
  · have hn := hv.n0
    have := (at_mk o p (q + 1) hn).2.2.1
    rw [hv.f0] at this
    have e : (l.length : Int) * q + r + 1 = (l.length : Int) * (q + 1) + (0 : Nat) := by rw [Int.mul_add]; omega
    rw [e, this, Int.mul_add]
    omega

theorem at_lt {o p : Int} {l : List Sp} (hv : Vd o p l) (k : Int) : atF o p l k < atT o p l k ∧ atT o p l k ≤ atF o p l (k + 1) := by
  obtain ⟨r, hr, hk⟩ := at_parts k hv.n0
  rw [hk]
  obtain ⟨_, _, e1, e2⟩ := at_mk o p (k / (l.length : Int)) hr
  have e3 := at_next hv (k / (l.length : Int)) hr
  have h1 := next_bd hv hr
  have h2 := hv.bd hr
  omega

theorem near_of {o p : Int} {l : List Sp} (hv : Vd o p l) {k x : Int} (h1 : atF o p l k ≤ x) (h2 : x < atF o p l (k + 1)) : nearN o p l x = k := by
  obtain ⟨r, hr, hk⟩ := at_parts k hv.n0
  generalize k / (l.length : Int) = q at hk
  rw [hk] at h1 h2 ⊢
  rw [(at_mk o p q hr).2.2.1] at h1
  rw [at_next hv q hr] at h2
  have hn := next_bd hv hr
  have hb := hv.bd hr
  obtain ⟨y, hy⟩ : ∃ y, y = x - o - p * q := ⟨_, rfl⟩
  have e : x - o = y + p * q := by omega
  have hp := hv.p1
  have e1 : (x - o) / p = q := by rw [e, Int.add_mul_ediv_left _ _ (by omega), Int.ediv_eq_zero_of_lt (by omega) (by omega)]; omega
  have e2 : (x - o) % p = y := by rw [e, Int.add_mul_emod_self_left, Int.emod_eq_of_lt (by omega) (by omega)]
  have e3 : lastTo l y l.length = r := lastTo_eq _ _ hr (by omega) (fun j h3 h4 => by
    have h5 : nextAt p l r = fr l (r + 1) := by rw [nextAt, if_pos (by omega)]
    have h6 := (asc_mono hv.asc j (r + 1) (by omega) h4).1
    omega)
  rw [nearN, e1, e2, e3]

theorem near_next {o p : Int} {l : List Sp} (hv : Vd o p l) (k : Int) : nearN o p l (atF o p l (k + 1)) = k + 1 := by
  have h := at_lt hv (k + 1)
  exact near_of hv (Int.le_refl _) (by omega)

/-- what a row's span tells -/
theorem spanE_zero {o p k : Int} {l : List Sp} (h : spanE o p l k = 0) : validB o p l = true ∧ lineB (atF o p l k) = true ∧ lineB (atT o p l k) = true ∧ spanF o p l k = atF o p l k ∧ spanT o p l k = atT o p l k := by
  cases hv : validB o p l with
  | false => rw [spanE, hv] at h; simp at h
  | true =>
    cases ho : onB o p l k with
    | false => rw [spanE, hv, ho] at h; simp at h
    | true =>
      have h2 := spanE_on (k := k) hv ho
      rw [onB, Bool.and_eq_true] at ho
      exact ⟨rfl, ho.1, ho.2, h2.2.1, h2.2.2⟩

theorem find_in {o p k x : Int} {l : List Sp} (hv : validB o p l = true) (hl : lineB x = true) (h1 : atF o p l k ≤ x) (h2 : x < atT o p l k) : findB o p l x = true ∧ findN o p l x = k ∧ nearR o p l x = k := by
  have hd := Vd.of hv
  have hn := near_of hd h1 (by have := at_lt hd k; omega)
  have hb : findB o p l x = true := by simp [findB, hv, hl, inB, hn, h2]
  exact ⟨hb, by rw [findN, if_pos hb, hn], by rw [nearR, hv, hl]; exact hn⟩
theorem find_out {o p k x : Int} {l : List Sp} (hv : validB o p l = true) (hl : lineB x = true) (h1 : atT o p l k ≤ x) (h2 : x < atF o p l (k + 1)) : findB o p l x = false ∧ findN o p l x = 0 ∧ nearR o p l x = k := by
  have hd := Vd.of hv
  have hn := near_of hd (by have := at_lt hd k; omega) h2
  have hb : findB o p l x = false := by simp [findB, inB, hn]; omega
  exact ⟨hb, by rw [findN, hb]; rfl, by rw [nearR, hv, hl]; exact hn⟩
end Go.Proofs.Ytnieceplfjmocaa
