/-
  granule.at: the granule with a number.
-/
import Derived.Test.YtnieceplfjmocaaRValid
import Derived.Test.YtnieceplfjmocaaInt
namespace Go.Proofs.Ytnieceplfjmocaa
open Go.RowKit Go.BigFrame

def atF (o p : Int) (l : List Sp) (k : Int) : Int := fr l (k % (l.length : Int)).toNat + (o + p * (k / (l.length : Int)))
def atT (o p : Int) (l : List Sp) (k : Int) : Int := tt l (k % (l.length : Int)).toNat + (o + p * (k / (l.length : Int)))

/-- what makes a calendar valid, in pieces -/
structure Vd (o p : Int) (l : List Sp) : Prop where
  n0 : 0 < l.length
  n5 : l.length ≤ 5000
  p1 : 1 ≤ p
  p2 : p ≤ 12622780800
  o1 : -2199023255552 ≤ o
  o2 : o ≤ 2199023255552
  asc : ascB l = true
  f0 : fr l 0 = 0
  tl : tt l (l.length - 1) ≤ p
  least : leastN p l = l.length

theorem Vd.of {o p : Int} {l : List Sp} (h : validB o p l = true) : Vd o p l := by
  simp only [validB, Bool.and_eq_true, decide_eq_true_eq, beq_iff_eq] at h
  obtain ⟨h1, h2, h3, h4, h5, h6, h7, h8, h9⟩ := h
  have := halfB_iff.1 h5
  exact ⟨h1, h2, h3, h4, this.1, this.2, h6, h7, h8, h9⟩
theorem Vd.back {o p : Int} {l : List Sp} (h : Vd o p l) : validB o p l = true := by
  simp only [validB, Bool.and_eq_true, decide_eq_true_eq, beq_iff_eq]
  exact ⟨h.n0, h.n5, h.p1, h.p2, halfB_iff.2 ⟨h.o1, h.o2⟩, h.asc, h.f0, h.tl, h.least⟩

theorem asc_mono {l : List Sp} (h : ascB l = true) : ∀ j i, i ≤ j → j < l.length → fr l i ≤ fr l j ∧ tt l i ≤ tt l j := by
  intro j
  induction j with
  | zero => intro i hi hj; have : i = 0 := by omega
            subst this; exact ⟨Int.le_refl _, Int.le_refl _⟩
  | succ j ih =>
    intro i hi hj
    rcases Nat.lt_or_ge i (j + 1) with h1 | h1
    · have h2 := ih i (by omega) (by omega)
      have h3 := asc_iv h (show j < l.length by omega)
      have h4 := asc_iv h hj
      have h5 := (ascB_iff.1 h).2 (j + 1) hj
      simp only [ascAt, Bool.and_eq_true, Bool.or_eq_true, decide_eq_true_eq, beq_iff_eq] at h5
      have h6 : tt l j ≤ fr l (j + 1) := by rcases h5.2 with h | h
                                            · omega
                                            · exact h
      omega
    · have : i = j + 1 := by omega
      subst this; exact ⟨Int.le_refl _, Int.le_refl _⟩
theorem Vd.bd {o p : Int} {l : List Sp} (h : Vd o p l) {k : Nat} (hk : k < l.length) : 0 ≤ fr l k ∧ fr l k < tt l k ∧ tt l k ≤ p := by
  have h1 := asc_mono h.asc k 0 (by omega) hk
  have h2 := asc_mono h.asc (l.length - 1) k (by omega) (by have := h.n0; omega)
  have h3 := asc_iv h.asc hk
  have h4 := h.f0
  have h5 := h.tl
  omega

theorem mul_small {n : Nat} {q p : Int} (h0 : 0 < n) (h5 : n ≤ 5000) (hp : 1 ≤ p) (h1 : -1125899906842624 ≤ p * q) (h2 : p * q ≤ 1125899906842624) : -5629499534213120000 ≤ (n : Int) * q ∧ (n : Int) * q ≤ 5629499534213120000 ∧ -1125899906842624 ≤ q ∧ q ≤ 1125899906842624 := by
  have hq : -1125899906842624 ≤ q ∧ q ≤ 1125899906842624 := by
    constructor
    · rcases Int.lt_or_le q 0 with hq | hq
      · have : p * q ≤ 1 * q := Int.mul_le_mul_of_nonpos_right hp (by omega)
        omega
      · omega
    · rcases Int.lt_or_le q 0 with hq | hq
      · omega
      · have : 1 * q ≤ p * q := Int.mul_le_mul_of_nonneg_right hp (by omega)
        omega
  have hn : (0 : Int) ≤ (n : Int) ∧ (n : Int) ≤ 5000 := by omega
  obtain ⟨a, b⟩ := hq
  refine ⟨?_, ?_, a, b⟩
  · have e1 : (n : Int) * (-1125899906842624) ≤ (n : Int) * q := Int.mul_le_mul_of_nonneg_left a (by omega)
    omega
  · have e1 : (n : Int) * q ≤ (n : Int) * 1125899906842624 := Int.mul_le_mul_of_nonneg_left b (by omega)
    omega

set_option maxHeartbeats 2000000 in
theorem at_any (o p k : Int) (A : Option Addr) (c : Nat) (l : List Sp) (w : World) (h : SpsR w A l) (hv : Vd o p l) (hk1 : -9223372036854775808 ≤ k) (hk2 : k ≤ 9223372036854775807)
    (hq1 : -1125899906842624 ≤ p * (k / (l.length : Int))) (hq2 : p * (k / (l.length : Int)) ≤ 1125899906842624) :
    Calls Try.prog 52 #[.agg #[.int .i64 o, .int .i64 p, .slice A l.length c], .int .i64 k] w fun e w' => e = .returned (.agg #[.int .i64 (atF o p l k), .int .i64 (atT o p l k)]) ∧ Below w.heap.size w w' := by
  have h0 := hv.n0
  have h5 := hv.n5
  have o1 := hv.o1
  have o2 := hv.o2
  obtain ⟨m1, m2, m3, m4⟩ := mul_small h0 h5 hv.p1 hq1 hq2
  have hmod : k - (l.length : Int) * (k / (l.length : Int)) = k % (l.length : Int) := by have := Int.emod_add_mul_ediv k (l.length : Int); omega
  have hm := div_bd (a := k) (b := (l.length : Int)) (by omega)
  have i1 : 0 ≤ k - (l.length : Int) * (k / (l.length : Int)) := by omega
  have i2 : k - (l.length : Int) * (k / (l.length : Int)) < (l.length : Int) := by omega
  obtain ⟨b, o', rfl, hc⟩ := h h0
  obtain ⟨c1, c2⟩ := hc (k - (l.length : Int) * (k / (l.length : Int))).toNat (by omega)
  obtain ⟨b1, b2, b3⟩ := hv.bd (show (k - (l.length : Int) * (k / (l.length : Int))).toNat < l.length by omega)
  have hp2 := hv.p2
  have HM := Lib.hid hmod
  have hblt : b < w.heap.size := World.block_lt_of_cell? _ _ c1
  clear hmod hm hc h hv
  go_enter Try.func52, Try.ntmps52
  go_wp2_with (go_at_call 51; refine (ifloor_any _ _ _ hk1 hk2 (by omega) (by omega)).mono ?_; rintro e w' ⟨rfl, n, rfl⟩)
  refine bodyPost_ret (v := .agg #[.int .i64 (fr l (k - (l.length : Int) * (k / (l.length : Int))).toNat + (o + p * (k / (l.length : Int)))), .int .i64 (tt l (k - (l.length : Int) * (k / (l.length : Int))).toNat + (o + p * (k / (l.length : Int))))]) (by simp [results, Try.results52, go_sem]) rfl ⟨?_, ?_⟩
  · rw [HM.out]; rfl
  · exact (((below_drewN (((Below.refl _ _).alloc (Nat.le_refl _) _).alloc (by simp) _) n).setCell (by simp) _).setCell (by simp) _).alloc (by simp; omega) _

end Go.Proofs.Ytnieceplfjmocaa
