/-
  integer.size, signed, Mul; bits.Mul64.
-/
import Derived.Test.YtebkfbkgmbgobaaBase
import Derived.Test.YtebkfbkgmbgobaaProg
import Derived.Shelf.Bits.Mul64
namespace Go.Proofs.Ytebkfbkgmbgobaa
open Go.RowKit Go.BigFrame

set_option maxHeartbeats 1000000 in
theorem mul64_any (x y : Nat) (hx : x < 18446744073709551616) (hy : y < 18446744073709551616) (w : World) :
    Calls Try.prog 84 #[.int .u64 x, .int .u64 y] w fun e w' => e = .returned (.tuple #[.int .u64 ((x * y / 18446744073709551616 : Nat) : Int), .int .u64 ((x * y % 18446744073709551616 : Nat) : Int)]) ∧ w = w' := by
  obtain ⟨bd, bt, bw, hhi⟩ := Lib.mul64_hi x y hx hy
  have ba := Lib.half_mul_le (a := x / 4294967296) (b := y / 4294967296) (by omega) (by omega)
  have bb := Lib.half_mul_le (a := x / 4294967296) (b := y % 4294967296) (by omega) (by omega)
  have bc := Lib.half_mul_le (a := x % 4294967296) (b := y / 4294967296) (by omega) (by omega)
  have ba' : x / 4294967296 * (y / 4294967296) < 18446744073709551616 := by omega
  have bb' : x / 4294967296 * (y % 4294967296) < 18446744073709551616 := by omega
  have bc' : x % 4294967296 * (y / 4294967296) < 18446744073709551616 := by omega
  have bh1 : x / 4294967296 * (y / 4294967296) + (x / 4294967296 * (y % 4294967296) + x % 4294967296 * (y % 4294967296) / 4294967296) / 4294967296 < 18446744073709551616 := by omega
  have bh : x / 4294967296 * (y / 4294967296) + (x / 4294967296 * (y % 4294967296) + x % 4294967296 * (y % 4294967296) / 4294967296) / 4294967296 + ((x / 4294967296 * (y % 4294967296) + x % 4294967296 * (y % 4294967296) / 4294967296) % 4294967296 + x % 4294967296 * (y / 4294967296)) / 4294967296 < 18446744073709551616 := by omega
  go_enter Try.func84, Try.ntmps84
  go_wp2
  simp only [Mul64.maskN x hx, Mul64.maskN y hy, Mul64.divN, Mul64.mulN, Mul64.addN, Mul64.wrapN _ bd, Mul64.wrapN _ bb', Mul64.wrapN _ bt, Mul64.maskN _ bt, Mul64.wrapN _ bc', Mul64.wrapN _ bw, Mul64.wrapN _ ba', Mul64.wrapN _ bh1, Mul64.wrapN _ bh, Mul64.wrapM (x * y)]
  rw [hhi]
  go_ret2
  exact ⟨rfl, rfl⟩

theorem size_any (a : Int) (h1 : -9223372036854775808 ≤ a) (h2 : a ≤ 9223372036854775807) (w : World) :
    Calls Try.prog 82 #[.int .i64 a] w fun e w' => e = .returned (.int .u64 (a.natAbs : Int)) ∧ w = w' := by
  by_cases h : a < 0
  · go_enter Try.func82, Try.ntmps82
    go_wp2
    go_ret
    exact ⟨ret_int (by simp only [IntKind.wrap_u64]; omega), rfl⟩
  · go_enter Try.func82, Try.ntmps82
    go_wp2
    go_ret
    exact ⟨ret_int (by omega), rfl⟩

/-- the number with absolute value m -/
def sgn (m : Nat) (neg : Bool) : Int := if neg then -(m : Int) else m
def sgnOk (m : Nat) (neg : Bool) : Bool := if neg then decide (m ≤ 9223372036854775808) else decide (m ≤ 9223372036854775807)

theorem ret_ib {k : IntKind} {a b : Int} {c d : Bool} (h1 : a = b) (h2 : c = d) : Ending.returned (.tuple #[.int k a, .bool c]) = .returned (.tuple #[.int k b, .bool d]) := by rw [h1, h2]
set_option maxHeartbeats 1000000 in
theorem signed_any (m : Nat) (neg : Bool) (hm : m < 18446744073709551616) (w : World) :
    Calls Try.prog 83 #[.int .u64 m, .bool neg] w fun e w' => e = .returned (.tuple #[.int .i64 (if sgnOk m neg then sgn m neg else 0), .bool (sgnOk m neg)]) ∧ w = w' := by
  cases neg with
  | true =>
    by_cases h : m ≤ 9223372036854775808
    · have d1 : decide ((m : Int) ≤ 9223372036854775808) = true := decide_eq_true (by omega)
      have e1 : sgnOk m true = true := by simp [sgnOk, h]
      rw [e1]
      have HE := Lib.hid (show sgn m true = -(m : Int) from rfl)
      clear e1
      go_enter Try.func83, Try.ntmps83
      go_wp2
      go_ret2
      exact ⟨ret_ib (by rw [HE.out]; simp only [IntKind.wrap_u64, wrap64]; omega) rfl, rfl⟩
    · have d1 : decide ((m : Int) ≤ 9223372036854775808) = false := decide_eq_false (by omega)
      have e1 : sgnOk m true = false := by simp [sgnOk, h]
      rw [e1]
      clear e1
      go_enter Try.func83, Try.ntmps83
      go_wp2
      go_ret2
      exact ⟨ret_ib (by simp) rfl, rfl⟩
  | false =>
    by_cases h : m ≤ 9223372036854775807
    · have d1 : decide ((m : Int) ≤ 9223372036854775807) = true := decide_eq_true (by omega)
      have e1 : sgnOk m false = true := by simp [sgnOk, h]
      rw [e1]
      have HE := Lib.hid (show sgn m false = (m : Int) from rfl)
      clear e1
      go_enter Try.func83, Try.ntmps83
      go_wp2
      go_ret2
      exact ⟨ret_ib (by rw [HE.out]) rfl, rfl⟩
    · have d1 : decide ((m : Int) ≤ 9223372036854775807) = false := decide_eq_false (by omega)
      have e1 : sgnOk m false = false := by simp [sgnOk, h]
      rw [e1]
      clear e1
      go_enter Try.func83, Try.ntmps83
      go_wp2
      go_ret2
      exact ⟨ret_ib (by simp) rfl, rfl⟩

/-- the product fits -/
def fitB (x : Int) : Bool := decide (-9223372036854775808 ≤ x) && decide (x ≤ 9223372036854775807)
theorem sgn_mul {a b : Int} : a * b = sgn (a.natAbs * b.natAbs) (decide (a < 0) != decide (b < 0)) := by
  unfold sgn
  rcases Int.lt_or_le a 0 with ha | ha <;> rcases Int.lt_or_le b 0 with hb | hb
  · have e1 : decide (a < 0) = true := decide_eq_true ha
    have e2 : decide (b < 0) = true := decide_eq_true hb
    rw [e1, e2]
    simp only [bne_self_eq_false, Bool.false_eq_true, if_false]
    rw [Int.natCast_mul, show ((a.natAbs : Nat) : Int) = -a by omega, show ((b.natAbs : Nat) : Int) = -b by omega, Int.neg_mul_neg]
  · have e1 : decide (a < 0) = true := decide_eq_true ha
    have e2 : decide (b < 0) = false := decide_eq_false (by omega)
    rw [e1, e2]
    simp only [Bool.true_bne, Bool.not_false, if_true]
    rw [Int.natCast_mul, show ((a.natAbs : Nat) : Int) = -a by omega, show ((b.natAbs : Nat) : Int) = b by omega, Int.neg_mul, Int.neg_neg]
  · have e1 : decide (a < 0) = false := decide_eq_false (by omega)
    have e2 : decide (b < 0) = true := decide_eq_true hb
    rw [e1, e2]
    simp only [Bool.false_bne, if_true]
    rw [Int.natCast_mul, show ((a.natAbs : Nat) : Int) = a by omega, show ((b.natAbs : Nat) : Int) = -b by omega, Int.mul_neg, Int.neg_neg]
  · have e1 : decide (a < 0) = false := decide_eq_false (by omega)
    have e2 : decide (b < 0) = false := decide_eq_false (by omega)
    rw [e1, e2]
    simp only [bne_self_eq_false, Bool.false_eq_true, if_false]
    rw [Int.natCast_mul, show ((a.natAbs : Nat) : Int) = a by omega, show ((b.natAbs : Nat) : Int) = b by omega]
theorem fit_small {m : Nat} {neg : Bool} (h : m < 18446744073709551616) : fitB (sgn m neg) = sgnOk m neg := by
  unfold fitB sgn sgnOk
  rw [Bool.eq_iff_iff]
  cases neg <;> simp <;> omega
theorem fit_big {m : Nat} {neg : Bool} (h : ¬ m < 18446744073709551616) : fitB (sgn m neg) = false := by
  unfold fitB sgn
  rw [Bool.eq_false_iff]
  cases neg <;> simp <;> omega

theorem imul_walk (a b : Int) (sa sb : Bool) (ma mb : Nat) (hi lo : Nat) (v : Int) (ok : Bool) (w : World) (ha : decide (a < 0) = sa) (hb : decide (b < 0) = sb)
    (h1 : ∀ w, Calls Try.prog 82 #[.int .i64 a] w fun e w' => e = .returned (.int .u64 ma) ∧ w = w')
    (h2 : ∀ w, Calls Try.prog 82 #[.int .i64 b] w fun e w' => e = .returned (.int .u64 mb) ∧ w = w')
    (h3 : ∀ w, Calls Try.prog 84 #[.int .u64 ma, .int .u64 mb] w fun e w' => e = .returned (.tuple #[.int .u64 hi, .int .u64 lo]) ∧ w = w')
    (h4 : ∀ w, Calls Try.prog 83 #[.int .u64 lo, .bool (sa != sb)] w fun e w' => e = .returned (.tuple #[.int .i64 v, .bool ok]) ∧ w = w')
    (x : Bool) (hx : ((hi : Int) != 0) = x) :
    Calls Try.prog 67 #[.int .i64 a, .int .i64 b] w fun e w' => e = .returned (.tuple #[.int .i64 (if x || !ok then 0 else v), .int .i64 (if x || !ok then 9 else 0)]) ∧ w = w' := by
  have SA := Lib.hid h1
  have SB := Lib.hid h2
  have HM := Lib.hid h3
  have HS := Lib.hid h4
  clear h1 h2 h3 h4
  cases x with
  | true =>
    simp only [Bool.true_or, if_true]
    go_enter Try.func67, Try.ntmps67
    go_wp2_with fail
    refine (SA.out _).mono ?_
    rintro e w1 ⟨rfl, rfl⟩
    go_wp2_with fail
    refine (SB.out _).mono ?_
    rintro e w1 ⟨rfl, rfl⟩
    go_wp2_with fail
    refine (HM.out _).mono ?_
    rintro e w1 ⟨rfl, rfl⟩
    go_wp2_with fail
    refine (HS.out _).mono ?_
    rintro e w1 ⟨rfl, rfl⟩
    go_wp2
    go_ret2
    exact ⟨rfl, rfl⟩
  | false =>
    cases ok with
    | true =>
      simp only [Bool.not_true, Bool.false_or, Bool.false_eq_true, if_false]
      go_enter Try.func67, Try.ntmps67
      go_wp2_with fail
      refine (SA.out _).mono ?_
      rintro e w1 ⟨rfl, rfl⟩
      go_wp2_with fail
      refine (SB.out _).mono ?_
      rintro e w1 ⟨rfl, rfl⟩
      go_wp2_with fail
      refine (HM.out _).mono ?_
      rintro e w1 ⟨rfl, rfl⟩
      go_wp2_with fail
      refine (HS.out _).mono ?_
      rintro e w1 ⟨rfl, rfl⟩
      go_wp2
      go_ret2
      exact ⟨rfl, rfl⟩
    | false =>
      simp only [Bool.not_false, Bool.false_or, if_true]
      go_enter Try.func67, Try.ntmps67
      go_wp2_with fail
      refine (SA.out _).mono ?_
      rintro e w1 ⟨rfl, rfl⟩
      go_wp2_with fail
      refine (SB.out _).mono ?_
      rintro e w1 ⟨rfl, rfl⟩
      go_wp2_with fail
      refine (HM.out _).mono ?_
      rintro e w1 ⟨rfl, rfl⟩
      go_wp2_with fail
      refine (HS.out _).mono ?_
      rintro e w1 ⟨rfl, rfl⟩
      go_wp2
      go_ret2
      exact ⟨rfl, rfl⟩

theorem imul_any (a b : Int) (h1 : -9223372036854775808 ≤ a) (h2 : a ≤ 9223372036854775807) (h3 : -9223372036854775808 ≤ b) (h4 : b ≤ 9223372036854775807) (w : World) :
    Calls Try.prog 67 #[.int .i64 a, .int .i64 b] w fun e w' => e = .returned (.tuple #[.int .i64 (if fitB (a * b) then a * b else 0), .int .i64 (if fitB (a * b) then 0 else 9)]) ∧ w = w' := by
  have ha : a.natAbs < 18446744073709551616 := by omega
  have hb : b.natAbs < 18446744073709551616 := by omega
  have hlo : a.natAbs * b.natAbs % 18446744073709551616 < 18446744073709551616 := Nat.mod_lt _ (by decide)
  refine (imul_walk a b _ _ a.natAbs b.natAbs _ _ _ _ w rfl rfl (size_any a h1 h2) (size_any b h3 h4) (mul64_any _ _ ha hb) (signed_any _ _ hlo) _ rfl).mono ?_
  rintro e w' ⟨rfl, rfl⟩
  refine ⟨?_, rfl⟩
  rw [sgn_mul (a := a) (b := b)]
  generalize (decide (a < 0) != decide (b < 0)) = neg
  generalize a.natAbs * b.natAbs = m at *
  by_cases hm : m < 18446744073709551616
  · rw [fit_small hm, Nat.mod_eq_of_lt hm, Nat.div_eq_of_lt hm]
    cases sgnOk m neg <;> simp
  · rw [fit_big hm]
    have hq : m / 18446744073709551616 ≠ 0 := by
      intro h
      have := Nat.div_add_mod m 18446744073709551616
      omega
    have : (((m / 18446744073709551616 : Nat) : Int) != 0) = true := by rw [bne_iff_ne]; intro h; exact hq (Int.ofNat.inj h)
    rw [this]; simp
end Go.Proofs.Ytebkfbkgmbgobaa
