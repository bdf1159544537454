/-
  granule.far and granule.Shift.
-/
import Derived.Test.YtnieceplfjmocaaPer
import Derived.Test.YtnieceplfjmocaaKeep
import Derived.Test.YtnieceplfjmocaaOwn
namespace Go.Proofs.Ytnieceplfjmocaa
open Go.RowKit Go.BigFrame

attribute [local go_sem ↓] field_span0 field_span1

theorem half_hi {o p : Int} {l : List Sp} {k M : Int} (hv : Vd o p l) (hM : 8796093022208 ≤ M) (h : M / p < k / (l.length : Int)) : halfB (atF o p l k) = false := by
  have hm := div_bd (a := k) (b := (l.length : Int)) (by have := hv.n0; omega)
  have hb := hv.bd (show (k % (l.length : Int)).toNat < l.length by have := hv.n0; omega)
  have h1 : p * (M / p + 1) ≤ p * (k / (l.length : Int)) := Int.mul_le_mul_of_nonneg_left (by omega) (by have := hv.p1; omega)
  have h2 := Int.mul_ediv_add_emod M p
  have h3 := Int.emod_lt_of_pos M (show 0 < p by have := hv.p1; omega)
  rw [Int.mul_add] at h1
  have o1 := hv.o1
  cases hl : halfB (atF o p l k) with
  | false => rfl
  | true => have := halfB_iff.1 hl
            simp only [atF] at this
            omega
theorem half_lo {o p : Int} {l : List Sp} {k M : Int} (hv : Vd o p l) (hM : 8796093022208 ≤ M) (h : k / (l.length : Int) < -(M / p) - 1) : halfB (atF o p l k) = false := by
  have hm := div_bd (a := k) (b := (l.length : Int)) (by have := hv.n0; omega)
  have hb := hv.bd (show (k % (l.length : Int)).toNat < l.length by have := hv.n0; omega)
  have h1 : p * (k / (l.length : Int)) ≤ p * (-(M / p) - 2) := Int.mul_le_mul_of_nonneg_left (by omega) (by have := hv.p1; omega)
  have h2 := Int.mul_ediv_add_emod M p
  have h3 := Int.emod_lt_of_pos M (show 0 < p by have := hv.p1; omega)
  have e : p * (-(M / p) - 2) = -(p * (M / p)) - p * 2 := by rw [Int.mul_sub, Int.mul_neg]
  have o2 := hv.o2
  cases hl : halfB (atF o p l k) with
  | false => rfl
  | true => have := halfB_iff.1 hl
            simp only [atF] at this
            omega

/-- a granule that begins near has a small number -/
theorem half_small {o p : Int} {l : List Sp} {n : Int} (hv : Vd o p l) (hh : halfB (atF o p l n) = true) :
    -4410669292032 ≤ p * (n / (l.length : Int)) ∧ p * (n / (l.length : Int)) ≤ 4410669292032 ∧ -30000000000000000 ≤ n ∧ n ≤ 30000000000000000 := by
  have hm := div_bd (a := n) (b := (l.length : Int)) (by have := hv.n0; omega)
  have hb := hv.bd (show (n % (l.length : Int)).toNat < l.length by have := hv.n0; omega)
  have o1 := hv.o1
  have o2 := hv.o2
  have p1 := hv.p1
  have p2 := hv.p2
  have n0 := hv.n0
  have n5 := hv.n5
  have h1 := halfB_iff.1 hh
  simp only [atF] at h1
  have hmod := Int.emod_add_mul_ediv n (l.length : Int)
  generalize n / (l.length : Int) = q at *
  have a1 : -4410669292032 ≤ p * q := by omega
  have a2 : p * q ≤ 4410669292032 := by omega
  have hq : -4410669292032 ≤ q ∧ q ≤ 4410669292032 := by
    constructor
    · rcases Int.lt_or_le q 0 with hq | hq
      · have : p * q ≤ 1 * q := Int.mul_le_mul_of_nonpos_right p1 (by omega)
        omega
      · omega
    · rcases Int.lt_or_le q 0 with hq | hq
      · omega
      · have : 1 * q ≤ p * q := Int.mul_le_mul_of_nonneg_right p1 (by omega)
        omega
  have e1 : (l.length : Int) * q ≤ (l.length : Int) * 4410669292032 := Int.mul_le_mul_of_nonneg_left hq.2 (by omega)
  have e2 : (l.length : Int) * -4410669292032 ≤ (l.length : Int) * q := Int.mul_le_mul_of_nonneg_left hq.1 (by omega)
  omega
theorem small_next {o p : Int} {l : List Sp} {n : Int} (hv : Vd o p l) (hh : halfB (atF o p l n) = true) {i : Nat} (hi : i < l.length) :
    -1125899906842624 ≤ p * ((n + i) / (l.length : Int)) ∧ p * ((n + i) / (l.length : Int)) ≤ 1125899906842624 := by
  obtain ⟨h1, h2, _⟩ := half_small hv hh
  have p1 := hv.p1
  have p2 := hv.p2
  obtain ⟨r, hr, hk⟩ := at_parts n hv.n0
  generalize n / (l.length : Int) = q at *
  by_cases h : r + i < l.length
  · have e := (at_mk o p q h).1
    have e2 : n + i = (l.length : Int) * q + ((r + i : Nat) : Int) := by omega
    rw [e2, e]; omega
  · have e := (at_mk o p (q + 1) (show r + i - l.length < l.length by omega)).1
    have e2 : n + i = (l.length : Int) * (q + 1) + ((r + i - l.length : Nat) : Int) := by rw [Int.mul_add]; omega
    rw [e2, e, Int.mul_add]; omega

theorem at_at {o p k : Int} {A : Option Addr} {c : Nat} {l : List Sp} (w : World) (h : SpsR w A l) (hv : Vd o p l) (hk1 : -9223372036854775808 ≤ k) (hk2 : k ≤ 9223372036854775807)
    (hq : -1125899906842624 ≤ p * (k / (l.length : Int)) ∧ p * (k / (l.length : Int)) ≤ 1125899906842624) {a b : Int} (ha : atF o p l k = a) (hb : atT o p l k = b) :
    Calls Try.prog 52 #[.agg #[.int .i64 o, .int .i64 p, .slice A l.length c], .int .i64 k] w fun e w' => e = .returned (.agg #[.int .i64 a, .int .i64 b]) ∧ Below w.heap.size w w' := by
  subst ha hb
  exact at_any o p k A c l w h hv hk1 hk2 hq.1 hq.2

set_option maxHeartbeats 4000000 in
theorem far_any (o p k : Int) (A : Option Addr) (c : Nat) (l : List Sp) (w : World) (h : SpsR w A l) (hv : Vd o p l) (hk1 : -9223372036854775808 ≤ k) (hk2 : k ≤ 9223372036854775807) :
    Calls Try.prog 55 #[.agg #[.int .i64 o, .int .i64 p, .slice A l.length c], .int .i64 k] w fun e w' => e = .returned (.bool (!halfB (atF o p l k))) ∧ Below w.heap.size w w' := by
  have hn5 := hv.n5
  have hn0 := hv.n0
  have hp1 := hv.p1
  have hp2 := hv.p2
  have HD := Lib.hid hv
  have hW := (Below.refl w.heap.size w).alloc (Nat.le_refl _) (.cells #[.int .i64 o, .int .i64 p, .slice A l.length c] 24)
  have K0 := Lib.hid (((Kp.sps h).alloc (.cells #[.int .i64 o, .int .i64 p, .slice A l.length c] 24)).and ((Kp.blk (Blk.new w 24 #[.int .i64 o, .int .i64 p, .slice A l.length c])).and (Kp.bel hW)))
  have z1 : 0 ≤ 8796093022208 / p := Int.ediv_nonneg (by omega) (by omega)
  have z2 : 8796093022208 / p ≤ 8796093022208 := Int.ediv_le_self _ (by omega)
  have z3 : (-8796093022208 : Int).tdiv p = -(8796093022208 / p) := by rw [Int.neg_tdiv, Int.tdiv_eq_ediv_of_nonneg (by omega)]
  have kb := div_bd (a := k) (b := (l.length : Int)) (by omega)
  clear hv h hW
  by_cases t1 : 8796093022208 / p < k / (l.length : Int)
  · have HR := Lib.hid (half_hi HD.out (by omega) t1)
    have d1 : decide (8796093022208 / p < k / (l.length : Int)) = true := decide_eq_true t1
    clear t1
    go_enter Try.func55, Try.ntmps55
    go_wp2_with (go_at_call 51; refine (calls_b (ifloor_any _ _ _ hk1 hk2 (by omega) (by omega))).mono ?_; rintro e w1 ⟨rfl, hb1⟩; have K1 := Lib.hid (K0.out.next hb1); obtain ⟨-, hC, -⟩ := K1.out.now; have g0 := hC.cell 0; have g1 := hC.cell 1; have g2 := hC.cell 2; simp at g0 g1 g2; clear K0 hC hb1)
    go_ret
    exact ⟨ret_bool (by rw [HR.out]; rfl), K1.out.now.2.2⟩
  · have d1 : decide (8796093022208 / p < k / (l.length : Int)) = false := decide_eq_false t1
    by_cases t2 : k / (l.length : Int) < -(8796093022208 / p) - 1
    · have HR := Lib.hid (half_lo HD.out (by omega) t2)
      have d2 : decide (k / (l.length : Int) < -(8796093022208 / p) - 1) = true := decide_eq_true t2
      clear t2
      go_enter Try.func55, Try.ntmps55
      go_wp2_with (go_at_call 51; refine (calls_b (ifloor_any _ _ _ hk1 hk2 (by omega) (by omega))).mono ?_; rintro e w1 ⟨rfl, hb1⟩; have K1 := Lib.hid (K0.out.next hb1); obtain ⟨-, hC, -⟩ := K1.out.now; have g0 := hC.cell 0; have g1 := hC.cell 1; have g2 := hC.cell 2; simp at g0 g1 g2; clear K0 hC hb1)
      go_ret
      exact ⟨ret_bool (by rw [HR.out]; rfl), K1.out.now.2.2⟩
    · have d2 : decide (k / (l.length : Int) < -(8796093022208 / p) - 1) = false := decide_eq_false t2
      have nb := near_bd (n := l.length) hp1 hp2 (by omega) (by omega) (show k / (l.length : Int) ≤ 8796093022208 / p + 1 by omega) (by omega)
      have NB := Lib.hid nb
      clear t1 t2 nb
      obtain ⟨a, ha⟩ : ∃ a, atF o p l k = a := ⟨_, rfl⟩
      obtain ⟨b, hb⟩ : ∃ b, atT o p l k = b := ⟨_, rfl⟩
      rw [ha]
      have HA := Lib.hid ha
      have HB := Lib.hid hb
      clear ha hb
      cases hh : halfB a <;>
      · have HH := Lib.hid hh
        clear hh
        go_enter Try.func55, Try.ntmps55
        go_wp2_with (first | (go_at_call 51; refine (calls_b (ifloor_any _ _ _ hk1 hk2 (by omega) (by omega))).mono ?_; rintro e w1 ⟨rfl, hb1⟩; have K1 := Lib.hid (K0.out.next hb1); obtain ⟨-, hC, -⟩ := K1.out.now; have g0 := hC.cell 0; have g1 := hC.cell 1; have g2 := hC.cell 2; simp at g0 g1 g2; clear K0 hC hb1) | (go_at_call 52; refine (at_at _ K1.out.now.1 HD.out hk1 hk2 NB.out HA.out HB.out).mono ?_; rintro e w2 ⟨rfl, hb2⟩) | (go_at_call 47; refine (ghalf_at _ HH.out).mono ?_; rintro e w' ⟨rfl, rfl⟩))
        go_ret
        exact ⟨rfl, (K1.out.next hb2).now.2.2⟩
theorem far_at {o p k : Int} {A : Option Addr} {c : Nat} {l : List Sp} {v : Bool} (w : World) (h : SpsR w A l) (hv : Vd o p l) (hk1 : -9223372036854775808 ≤ k) (hk2 : k ≤ 9223372036854775807) (hh : halfB (atF o p l k) = v) :
    Calls Try.prog 55 #[.agg #[.int .i64 o, .int .i64 p, .slice A l.length c], .int .i64 k] w fun e w' => e = .returned (.bool (!v)) ∧ Below w.heap.size w w' := hh ▸ far_any o p k A c l w h hv hk1 hk2
end Go.Proofs.Ytnieceplfjmocaa
