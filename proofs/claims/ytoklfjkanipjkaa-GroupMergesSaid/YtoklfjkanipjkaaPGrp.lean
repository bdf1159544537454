/-
  Groups of granules: what the program and the reference make of a calendar, and that the lists are in order.
-/
import Derived.Test.YtoklfjkanipjkaaPCal3
namespace Go.Proofs.Ytoklfjkanipjkaa
open Go.RowKit

theorem p_law16_great (o p : Int) (l : List Sp) : m_law16_great std o p l = some (decide (40 < l.length)) := by
  rw [m_law16_great_eq, m_slices_ContainsFunc_2_eq, m_slices_IndexFunc_2_eq, m_law16_great_1_eq]
  simp only [Option.bind_some]
  by_cases h : 40 < l.length
  · rw [dT (show (40 : Int) < (l.length : Int) by omega), dT h]; rfl
  · rw [dF (show ¬ (40 : Int) < (l.length : Int) by omega), dF h]; exact bB (v := false) (bB (v := (-1 : Int)) (bF rfl (gI (by omega) rfl)) rfl) rfl

/-- a list by its members -/
def gl (n : Nat) (f : Nat → Sp) : List Sp := (List.range n).map f
theorem gl_len (n : Nat) (f : Nat → Sp) : (gl n f).length = n := by simp [gl]
theorem fr_gl {n : Nat} {f : Nat → Sp} {k : Nat} (h : k < n) : fr (gl n f) k = (f k).1 := by
  simp [fr, gl, h]
theorem tt_gl {n : Nat} {f : Nat → Sp} {k : Nat} (h : k < n) : tt (gl n f) k = (f k).2 := by
  simp [tt, gl, h]
theorem gl_succ (n : Nat) (f : Nat → Sp) : gl (n + 1) f = gl n f ++ [f n] := by
  simp [gl, List.range_succ]
theorem gl_zero (f : Nat → Sp) : gl 0 f = [] := rfl
/-- a loop that makes a list -/
theorem loop_gl {B : Int × List Sp → Option ((Int × List Sp) ⊕ List Sp)} {n : Nat} (f : Nat → Sp) (hn : n < 1180591620717411303424)
    (hs : ∀ i, i < n → B ((i : Int), gl i f) = some (.inl (((i + 1 : Nat) : Int), gl i f ++ [f i]))) (he : ∀ l, B ((n : Int), l) = some (.inr l)) : loop B (0, []) = some (gl n f) :=
  loop_up (B := B) (fun i => gl i f) hn (fun i hi => by rw [hs i hi, gl_succ]) (he _)

/-- the place of a granule is a number that 64 bits hold -/
structure AtOk (p : Int) (l : List Sp) (k : Int) : Prop where
  k1 : -9000000000000000000 ≤ k
  k2 : k ≤ 9000000000000000000
  b1 : -4611686018427387904 ≤ p * (k / (l.length : Int))
  b2 : p * (k / (l.length : Int)) ≤ 4611686018427387904
theorem p_group_at {o p k : Int} {l : List Sp} (hv : Vd o p l) (h : AtOk p l k) : m_group_at std o p k l = some (atF o p l k, atT o p l k) := by
  obtain ⟨k1, k2, b1, b2⟩ := h
  have h0 := hv.n0
  have h5 := hv.n5
  have hh1 := hv.o1
  have hh2 := hv.o2
  have hr := div_bd (a := k) (b := (l.length : Int)) (by omega)
  have hb := hv.bd (k := (k % (l.length : Int)).toNat) (by omega)
  have hp2 := hv.p2
  rw [m_group_at_eq, p_integer_Mod _ _ (by omega) (by omega) (by omega) (by omega), p_integer_Floor _ _ (by omega) (by omega) (by omega) (by omega)]
  simp only [fr_def, tt_def, Option.bind_some]
  exact gX (by omega) (gK (by omega) (gI (by omega) (gI (by omega) (gI (by omega) (gI (by omega) rfl)))))
theorem p_ref16_Granule {o p k : Int} {l : List Sp} (hv : Vd o p l) (h : AtOk p l k) : m_ref16_Granule std o p k l = some (atF o p l k, atT o p l k) := by
  obtain ⟨k1, k2, b1, b2⟩ := h
  have h0 := hv.n0
  have h5 := hv.n5
  have hh1 := hv.o1
  have hh2 := hv.o2
  have hr := div_bd (a := k) (b := (l.length : Int)) (by omega)
  have hb := hv.bd (k := (k % (l.length : Int)).toNat) (by omega)
  have hp2 := hv.p2
  have he : k - (l.length : Int) * (k / (l.length : Int)) = k % (l.length : Int) := (Int.emod_def k _).symm
  rw [m_ref16_Granule_eq, p_ref01_Floor _ _ (by omega) (by omega) (by omega) (by omega)]
  simp only [fr_def, tt_def, Option.bind_some, he]
  exact gI (by omega) (gI (by omega) (gX (by omega) (gK (by omega) (gI (by omega) (gI (by omega) (gI (by omega) (gI (by omega) rfl)))))))

theorem AtOk.mid {p : Int} {l : List Sp} {a b k : Int} (ha : AtOk p l a) (hb : AtOk p l b) (hp : 1 ≤ p) (h0 : 0 < l.length) (h1 : a ≤ k) (h2 : k ≤ b) : AtOk p l k := by
  have q1 := Int.ediv_le_ediv (c := (l.length : Int)) (by omega) h1
  have q2 := Int.ediv_le_ediv (c := (l.length : Int)) (by omega) h2
  have r1 := Int.mul_le_mul_of_nonneg_left q1 (show 0 ≤ p by omega)
  have r2 := Int.mul_le_mul_of_nonneg_left q2 (show 0 ≤ p by omega)
  exact ⟨by have := ha.k1; omega, by have := hb.k2; omega, by have := ha.b1; omega, by have := hb.b2; omega⟩
/-- places near the beginning -/
theorem AtOk.near {o p : Int} {l : List Sp} {a s : Int} (hv : Vd o p l) (ha1 : -268435456 ≤ a) (ha2 : a ≤ 268435456) (hs1 : -12622780800 ≤ p * s) (hs2 : p * s ≤ 12622780800) : AtOk p l (a + (l.length : Int) * s) := by
  have h0 := hv.n0
  have h5 := hv.n5
  have hp1 := hv.p1
  have hp2 := hv.p2
  have e : (a + (l.length : Int) * s) / (l.length : Int) = a / (l.length : Int) + s := by rw [Int.add_mul_ediv_left _ _ (by omega)]
  have q1 : -268435456 ≤ a / (l.length : Int) := by
    rw [Int.le_ediv_iff_mul_le (by omega)]; omega
  have q2 : a / (l.length : Int) ≤ 268435456 := by
    have : a / (l.length : Int) < 268435457 := by rw [Int.ediv_lt_iff_lt_mul (by omega)]; omega
    omega
  have m1 := Int.mul_le_mul_of_nonneg_left q1 (show 0 ≤ p by omega)
  have m2 := Int.mul_le_mul_of_nonneg_left q2 (show 0 ≤ p by omega)
  have hsm := mul_small (q := s) h0 h5 hp1 (by omega) (by omega)
  refine ⟨by omega, by omega, ?_, ?_⟩ <;> rw [e, Int.mul_add] <;> omega
theorem AtOk.base {o p : Int} {l : List Sp} {a : Int} (hv : Vd o p l) (ha1 : -268435456 ≤ a) (ha2 : a ≤ 268435456) : AtOk p l a := by
  have := AtOk.near (s := 0) hv ha1 ha2 (by omega) (by omega)
  simpa using this
/-- what holds of the place of a granule near the beginning -/
theorem at_bd {o p k : Int} {l : List Sp} (hv : Vd o p l) (h : AtOk p l k) : -4611688217450643456 ≤ atF o p l k ∧ atF o p l k ≤ 4611688230073424256 := by
  have h0 := hv.n0
  have hh1 := hv.o1
  have hh2 := hv.o2
  have hr := div_bd (a := k) (b := (l.length : Int)) (by omega)
  have hb := hv.bd (k := (k % (l.length : Int)).toNat) (by omega)
  have hp2 := hv.p2
  have := h.b1
  have := h.b2
  unfold atF
  omega
theorem at_base {o p a : Int} {l : List Sp} (hv : Vd o p l) (ha1 : -268435456 ≤ a) (ha2 : a ≤ 268435456) : -4611686018427387904 ≤ atF o p l a ∧ atF o p l a ≤ 4611686018427387904 := by
  have h0 := hv.n0
  have hh1 := hv.o1
  have hh2 := hv.o2
  have hp1 := hv.p1
  have hp2 := hv.p2
  have hr := div_bd (a := a) (b := (l.length : Int)) (by omega)
  have hb := hv.bd (k := (a % (l.length : Int)).toNat) (by omega)
  have q1 : -268435456 ≤ a / (l.length : Int) := by
    rw [Int.le_ediv_iff_mul_le (by omega)]; omega
  have q2 : a / (l.length : Int) ≤ 268435456 := by
    have : a / (l.length : Int) < 268435457 := by rw [Int.ediv_lt_iff_lt_mul (by omega)]; omega
    omega
  have m1 := Int.mul_le_mul_of_nonneg_left q1 (show 0 ≤ p by omega)
  have m2 := Int.mul_le_mul_of_nonneg_left q2 (show 0 ≤ p by omega)
  unfold atF
  omega

/-! blocks -/
theorem nn (n : Nat) : (0 : Int) ≤ (n : Int) := Int.natCast_nonneg n
theorem gcd_pos' {n m : Nat} (hn : 0 < n) : 1 ≤ Nat.gcd n m ∧ Nat.gcd n m ≤ n := ⟨Nat.gcd_pos_of_pos_left _ hn, Nat.gcd_le_left _ hn⟩
/-- the period of groups of m -/
def bP (p : Int) (l : List Sp) (m : Nat) : Int := p * ((m / Nat.gcd l.length m : Nat) : Int)
theorem p_group_blocks {o p : Int} {l : List Sp} {m : Nat} (hv : Vd o p l) (hm : 1 ≤ m) (hm2 : m ≤ 12622780800) : m_group_blocks std o p (m : Int) l = some (if bP p l m ≤ 12622780800 then (bP p l m, ((l.length / Nat.gcd l.length m : Nat) : Int), 0) else (0, 0, 9)) := by
  have h0 := hv.n0
  have h5 := hv.n5
  have hp1 := hv.p1
  have hp2 := hv.p2
  have hg := gcd_pos' (m := m) h0
  have hq := Nat.div_le_self m (Nat.gcd l.length m)
  have hq2 := Nat.div_le_self l.length (Nat.gcd l.length m)
  have z1 := nn (m / Nat.gcd l.length m)
  have z2 := nn (l.length / Nat.gcd l.length m)
  rw [m_group_blocks_eq, p_integer_Gcd _ _ (by omega) (by omega) (by omega)]
  simp only [Option.bind_some, nat_tdiv]
  refine gZ (by omega) (gI (by omega) ?_)
  have hM : m_integer_Mul std p ((m / Nat.gcd l.length m : Nat) : Int) = some (bif fits (bP p l m) then (bP p l m, 0) else (0, 9)) := by
    unfold m_integer_Mul
    have f1 : fits p = true := by simp [fits]; omega
    have f2 : fits ((m / Nat.gcd l.length m : Nat) : Int) = true := by simp only [fits, Bool.and_eq_true, decide_eq_true_eq]; omega
    rw [f1, f2]; rfl
  rw [hM]
  have hb0 : 0 ≤ bP p l m := Int.mul_nonneg (by omega) (nn _)
  by_cases hb : bP p l m ≤ 12622780800
  · rw [if_pos hb]
    have hf : fits (bP p l m) = true := by simp [fits]; omega
    rw [hf]
    refine bB rfl (bB (v := false) (bF (nF (eT rfl)) (congrArg some (dF (show ¬ 12622780800 < bP p l m by omega)))) (bF rfl (gI (by omega) rfl)))
  · rw [if_neg hb]
    cases hf : fits (bP p l m) with
    | true => exact bB rfl (bB (v := true) (bF (nF (eT rfl)) (congrArg some (dT (show 12622780800 < bP p l m by omega)))) (bT rfl rfl))
    | false => exact bB rfl (bB (v := true) (bT rfl rfl) (bT rfl rfl))
/-- the same, as the reference tests it -/
theorem big_iff {p : Int} {l : List Sp} {m : Nat} (hp1 : 1 ≤ p) : Int.tdiv 12622780800 p < ((m / Nat.gcd l.length m : Nat) : Int) ↔ ¬ bP p l m ≤ 12622780800 := by
  rw [Int.tdiv_eq_ediv_of_nonneg (by omega), Int.ediv_lt_iff_lt_mul (by omega), bP, Int.mul_comm p]
  omega

/-! groups -/
def grpF (o p : Int) (l : List Sp) (first : Int) (m j : Nat) : Sp := (atF o p l (first + (j : Int) * m), atT o p l (first + ((j : Int) + 1) * m - 1))
def grpL (o p : Int) (l : List Sp) (first : Int) (m : Nat) : List Sp := gl (l.length / Nat.gcd l.length m) (grpF o p l first m)
theorem blk_mul {l : List Sp} {m : Nat} : (l.length / Nat.gcd l.length m) * m = l.length * (m / Nat.gcd l.length m) := by
  rw [← Nat.mul_div_assoc _ (Nat.gcd_dvd_right _ _), Nat.mul_comm l.length m, Nat.mul_div_assoc _ (Nat.gcd_dvd_left _ _), Nat.mul_comm]
theorem blk_mul' {l : List Sp} {m : Nat} : ((l.length / Nat.gcd l.length m : Nat) : Int) * (m : Int) = (l.length : Int) * ((m / Nat.gcd l.length m : Nat) : Int) := by
  have := congrArg (Nat.cast (R := Int)) (blk_mul (l := l) (m := m))
  rwa [Int.natCast_mul, Int.natCast_mul] at this
theorem grp_ok {o p : Int} {l : List Sp} {first : Int} {m : Nat} (hv : Vd o p l) (hf1 : -268435456 ≤ first) (hf2 : first ≤ 268435456) (hb : bP p l m ≤ 12622780800) {k : Int} (h1 : first ≤ k) (h2 : k ≤ first + ((l.length / Nat.gcd l.length m : Nat) : Int) * (m : Int)) : AtOk p l k := by
  have hp1 := hv.p1
  have hb0 : 0 ≤ bP p l m := Int.mul_nonneg (by omega) (nn _)
  rw [blk_mul'] at h2
  exact AtOk.mid (AtOk.base hv hf1 hf2) (AtOk.near hv hf1 hf2 (by unfold bP at hb0; omega) hb) hp1 hv.n0 h1 h2
theorem at_mono' {o p : Int} {l : List Sp} (hv : Vd o p l) {a b : Int} (h : a ≤ b) : atF o p l a ≤ atF o p l b := by
  have := at_mono hv a (b - a).toNat
  rwa [show a + ((b - a).toNat : Int) = b by omega] at this
theorem grp_PL {o p : Int} {l : List Sp} {first : Int} {m : Nat} (hv : Vd o p l) (hf1 : -268435456 ≤ first) (hf2 : first ≤ 268435456) (hm : 1 ≤ m) (hb : bP p l m ≤ 12622780800) : PL (bP p l m) (grpL o p l first m) := by
  have h0 := hv.n0
  have h5 := hv.n5
  have hp1 := hv.p1
  have hg := gcd_pos' (m := m) h0
  have hN : 0 < l.length / Nat.gcd l.length m := Nat.div_pos hg.2 hg.1
  have hN2 := Nat.div_le_self l.length (Nat.gcd l.length m)
  have hM : 1 ≤ m / Nat.gcd l.length m := Nat.div_pos (Nat.gcd_le_right _ hm) hg.1
  have hlen : (grpL o p l first m).length = l.length / Nat.gcd l.length m := gl_len _ _
  have hmul (j : Nat) : ((j : Int) + 1) * m = j * m + m := by rw [Int.add_mul, Int.one_mul]
  refine ⟨by omega, by omega, ?_, hb, ?_, ?_, ?_, ?_, ?_⟩
  · have h9 : p * 1 ≤ bP p l m := Int.mul_le_mul_of_nonneg_left (by omega) (by omega)
    omega
  · intro k hk
    rw [hlen] at hk
    rw [grpL, fr_gl hk, tt_gl hk]
    simp only [grpF]
    have h1 := at_mono' hv (a := first + (k : Int) * m) (b := first + ((k : Int) + 1) * m - 1) (by rw [hmul]; omega)
    have h2 := at_lt hv (first + ((k : Int) + 1) * m - 1)
    omega
  · intro k hk
    rw [hlen] at hk
    rw [grpL, fr_gl hk, tt_gl (by omega)]
    simp only [grpF]
    have h2 := at_lt hv (first + ((k : Int) + 1) * m - 1)
    rw [show first + ((k : Int) + 1) * m - 1 + 1 = first + ((k + 1 : Nat) : Int) * m by rw [show ((k + 1 : Nat) : Int) = (k : Int) + 1 by omega]; omega] at h2
    omega
  · rw [hlen, grpL, fr_gl hN, tt_gl (by omega)]
    simp only [grpF]
    have h2 := at_lt hv (first + (((l.length / Nat.gcd l.length m - 1 : Nat) : Int) + 1) * m - 1)
    rw [show first + (((l.length / Nat.gcd l.length m - 1 : Nat) : Int) + 1) * m - 1 + 1 = first + ((l.length / Nat.gcd l.length m : Nat) : Int) * m by
      rw [show (((l.length / Nat.gcd l.length m - 1 : Nat) : Int) + 1) = ((l.length / Nat.gcd l.length m : Nat) : Int) by omega]; omega] at h2
    rw [blk_mul', (at_add o p h0 first _).1] at h2
    have : first + ((0 : Nat) : Int) * (m : Int) = first := by simp
    rw [this]
    unfold bP
    omega
  · rw [grpL, fr_gl hN]
    simp only [grpF]
    have : first + ((0 : Nat) : Int) * (m : Int) = first := by simp
    rw [this]
    exact (at_base hv hf1 hf2).1
  · rw [grpL, fr_gl hN]
    simp only [grpF]
    have : first + ((0 : Nat) : Int) * (m : Int) = first := by simp
    rw [this]
    exact (at_base hv hf1 hf2).2
end Go.Proofs.Ytoklfjkanipjkaa
