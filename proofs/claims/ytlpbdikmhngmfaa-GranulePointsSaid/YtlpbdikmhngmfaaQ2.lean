/-
  GranulePoints: the plain law.
-/
import Derived.Test.YtlpbdikmhngmfaaGN
import Derived.Test.YtlpbdikmhngmfaaPtS
import Derived.Test.YtlpbdikmhngmfaaManMC
namespace Go.Proofs.Ytlpbdikmhngmfaa.Gr
open Go.RowKit Go.Proofs.Ytlpbdikmhngmfaa

/-! granules one behind the other -/
def iat (l : List Int) (k : Nat) : Int := l.getD k 0
def psum (ls : List Int) (i : Nat) : Int := (ls.take i).sum
def rowTo (ls : List Int) (k : Nat) : List Sp := (List.range k).map fun i => (psum ls i, psum ls (i + 1))
theorem rowTo_succ (ls : List Int) (k : Nat) : rowTo ls (k + 1) = rowTo ls k ++ [(psum ls k, psum ls (k + 1))] := by simp [rowTo, List.range_succ]
theorem rowTo_len (ls : List Int) (k : Nat) : (rowTo ls k).length = k := by simp [rowTo]
theorem psum_succ {ls : List Int} {k : Nat} (h : k < ls.length) : psum ls (k + 1) = psum ls k + iat ls k := by
  unfold psum
  rw [List.take_succ_eq_append_getElem h, List.sum_append]
  simp [iat, List.getD_eq_getElem?_getD, List.getElem?_eq_getElem h]
theorem psum_zero (ls : List Int) : psum ls 0 = 0 := rfl
theorem fr_row {ls : List Int} {n k : Nat} (h : k < n) : fr (rowTo ls n) k = psum ls k := by
  simp [fr, rowTo, List.getD_eq_getElem?_getD, List.getElem?_map, List.getElem?_range h]
theorem tt_row {ls : List Int} {n k : Nat} (h : k < n) : tt (rowTo ls n) k = psum ls (k + 1) := by
  simp [tt, rowTo, List.getD_eq_getElem?_getD, List.getElem?_map, List.getElem?_range h]
structure RowOk (ls : List Int) : Prop where
  n0 : 0 < ls.length
  n5 : ls.length ≤ 5000
  each : ∀ k, k < ls.length → 1 ≤ iat ls k ∧ iat ls k ≤ 1000000
theorem psum_bd {ls : List Int} (h : RowOk ls) : ∀ k, k ≤ ls.length → 0 ≤ psum ls k ∧ psum ls k ≤ 1000000 * k := by
  intro k
  induction k with
  | zero => intro _; simp [psum_zero]
  | succ k ih =>
    intro hk
    have h1 := ih (by omega)
    have h2 := h.each k (by omega)
    rw [psum_succ (by omega)]
    omega
theorem row_PL {ls : List Int} (h : RowOk ls) : PL (psum ls ls.length) (rowTo ls ls.length) := by
  have h0 := h.n0
  have h5 := h.n5
  have hb := psum_bd h ls.length (Nat.le_refl _)
  have hl := rowTo_len ls ls.length
  refine ⟨by omega, by omega, ?_, by omega, fun k hk => ?_, fun k hk => ?_, ?_, ?_, ?_⟩
  · have h1 := psum_bd h (ls.length - 1) (by omega)
    have h2 := psum_succ (ls := ls) (k := ls.length - 1) (by omega)
    have h3 := h.each (ls.length - 1) (by omega)
    rw [show ls.length - 1 + 1 = ls.length by omega] at h2
    omega
  · rw [hl] at hk
    rw [fr_row hk, tt_row hk, psum_succ hk]
    have := h.each k hk
    omega
  · rw [hl] at hk
    rw [tt_row (by omega), fr_row hk]
    exact Int.le_refl _
  · rw [hl, tt_row (by omega), fr_row h0, psum_zero, show ls.length - 1 + 1 = ls.length by omega]
    omega
  · rw [fr_row h0, psum_zero]; decide
  · rw [fr_row h0, psum_zero]; decide
theorem p_granule_row {ls : List Int} (h : RowOk ls) : m_granule_row std 0 ls = some (0, ofP (psum ls ls.length) (rowTo ls ls.length), ofL (psum ls ls.length) (rowTo ls ls.length)) := by
  have h0 := h.n0
  have h5 := h.n5
  have hP := row_PL h
  have hf : fr (rowTo ls ls.length) 0 = 0 := by rw [fr_row h0, psum_zero]
  rw [m_granule_row_eq]
  have hloop : loop (m_granule_row_L1 std ls) (0, 0, ([] : List Sp)) = some (psum ls ls.length, rowTo ls ls.length) := by
    refine loop_to' (B := m_granule_row_L1 std ls) (e := (psum ls ls.length, rowTo ls ls.length)) (n := ls.length) (fun i => (psum ls i, (i : Int), rowTo ls i)) (by omega) (fun i hi => ?_) ?_
    · rw [m_granule_row_L1_eq]
      have h1 := psum_bd h i (by omega)
      have h2 := h.each i hi
      have e : List.getD ls i 0 = iat ls i := rfl
      rw [rowTo_succ, psum_succ hi]
      simp only [Int.toNat_natCast, e]
      refine bT (dT (by omega)) (gX (by omega) (gK hi (gI (by omega) (gR (by rw [rowTo_len]; omega) (gR (by simp) (gI (by omega) ?_))))))
      simp
    · rw [m_granule_row_L1_eq]
      exact bF (dF (by omega)) rfl
  have hOf := p_granule_Of hP
  rw [hf, shiftL_zero] at hOf
  refine bB hloop (bB hOf ?_)
  have : mkR (psum ls ls.length) (rowTo ls ls.length) = (0, ofP (psum ls ls.length) (rowTo ls ls.length), ofL (psum ls ls.length) (rowTo ls ls.length), 0) := by
    unfold mkR
    rw [hf]
    rfl
  rw [this]

/-! months -/
def monAt (i : Nat) : Int := cLen (1970 + ((i / 12 : Nat) : Int)) (((i % 12 : Nat) : Int) + 1)
def monL (k : Nat) : List Int := (List.range k).map monAt
theorem monL_succ (k : Nat) : monL (k + 1) = monL k ++ [monAt k] := by simp [monL, List.range_succ]
theorem monL_len (k : Nat) : (monL k).length = k := by simp [monL]
theorem cLen_bd (y m : Int) (hy : cYear y = true) (h1 : 1 ≤ m) (h2 : m ≤ 12) : 28 ≤ cLen y m ∧ cLen y m ≤ 31 := by
  rw [cLen, if_neg (by simp [hy]; omega)]
  unfold cTab
  split
  · omega
  · split
    · omega
    · split <;> omega
theorem monAt_bd (i : Nat) (h : i < 4800) : 28 ≤ monAt i ∧ monAt i ≤ 31 := cLen_bd _ _ (cYear_iff.2 (by omega)) (by omega) (by omega)
theorem iat_mon {n i : Nat} (h : i < n) : iat (monL n) i = monAt i := by
  simp [iat, monL, List.getD_eq_getElem?_getD, List.getElem?_map, List.getElem?_range h]
theorem mon_ok : RowOk (monL 4800) := by
  refine ⟨by rw [monL_len]; omega, by rw [monL_len]; omega, fun k hk => ?_⟩
  rw [monL_len] at hk
  rw [iat_mon hk]
  have := monAt_bd k hk
  omega
theorem p_granule_months : m_granule_months std = some (monL 4800) := by
  rw [m_granule_months_eq]
  refine bB ?_ rfl
  refine loop_to' (B := m_granule_months_L2 std) (e := monL 4800) (n := 400) (fun y => ((y : Int), monL (12 * y))) (by omega) (fun y hy => ?_) ?_
  · rw [m_granule_months_L2_eq]
    have hin : loop (m_granule_months_L1 std (y : Int)) (0, monL (12 * y)) = some (monL (12 * (y + 1))) := by
      refine loop_up (B := m_granule_months_L1 std (y : Int)) (n := 12) (fun m => monL (12 * y + m)) (by omega) (fun m hm => ?_) ?_
      · rw [m_granule_months_L1_eq]
        have e1 : (12 * y + m) / 12 = y := by omega
        have e2 : (12 * y + m) % 12 = m := by omega
        have e : m_civil_Length std (1970 + (y : Int)) ((m : Int) + 1) = some (monAt (12 * y + m)) := by
          unfold m_civil_Length monAt
          rw [e1, e2, cYear_iff.2 (by omega), dT (show 1 ≤ (m : Int) + 1 by omega), dT (show (m : Int) + 1 ≤ 12 by omega)]
          rfl
        refine bT (dT (by omega)) (gI (by omega) (gI (by omega) (bB e (gR (by rw [monL_len]; omega) (gR (by simp) ?_)))))
        rw [← monL_succ]
        exact congrArg some (congrArg Sum.inl (Prod.ext (by show (m : Int) + 1 = _; omega) rfl))
      · rw [m_granule_months_L1_eq]
        exact bF (dF (by omega)) rfl
    exact bT (dT (by omega)) (bB hin (gI (by omega) rfl))
  · rw [m_granule_months_L2_eq]
    exact bF (dF (by omega)) rfl
def monS : List Sp := rowTo (monL 4800) 4800
def monP : Int := psum (monL 4800) 4800
theorem p_granule_Months : m_granule_Months std = some (0, ofP monP monS, ofL monP monS) := by
  rw [m_granule_Months_eq]
  have := p_granule_row mon_ok
  rw [monL_len] at this
  exact bB p_granule_months (bB this rfl)
theorem mon_fr (k : Nat) (h : k < 4800) : fr monS k = psum (monL 4800) k ∧ tt monS k = psum (monL 4800) (k + 1) := ⟨fr_row h, tt_row h⟩
theorem mon_len : monS.length = 4800 := rowTo_len _ _
theorem mon_first : psum (monL 4800) 0 = 0 ∧ psum (monL 4800) 1 = 31 ∧ psum (monL 4800) 2 = 59 := by
  have h1 : psum (monL 4800) 1 = psum (monL 4800) 0 + iat (monL 4800) 0 := psum_succ (by rw [monL_len]; omega)
  have h2 : psum (monL 4800) 2 = psum (monL 4800) 1 + iat (monL 4800) 1 := psum_succ (by rw [monL_len]; omega)
  have a0 : monAt 0 = 31 := by decide
  have a1 : monAt 1 = 28 := by decide
  rw [iat_mon (by omega)] at h1 h2
  rw [psum_zero] at h1
  exact ⟨rfl, by omega, by omega⟩
theorem mon_PL : PL monP monS := by
  have := row_PL mon_ok
  rw [monL_len] at this
  exact this
theorem mon_two : 2 ≤ ofM monP monS := by
  have hl : (shiftL monS (fr monS 0)).length = 4800 := by rw [shiftL_len, mon_len]
  obtain ⟨m1, m2, m3, _⟩ := leastN_spec (p := monP) (l := shiftL monS (fr monS 0)) (by omega)
  have hm : leastN monP (shiftL monS (fr monS 0)) = ofM monP monS := rfl
  rcases Nat.lt_or_ge (ofM monP monS) 2 with h | h
  · have h1 : leastN monP (shiftL monS (fr monS 0)) = 1 := by omega
    rw [h1] at m3
    have := (repM_parts m3).2.2 0 (by omega)
    have e := eqAt_iff.1 this
    simp only [Nat.zero_add] at e
    rw [fr_shift (by rw [mon_len]; omega), fr_shift (by rw [mon_len]; omega), tt_shift (by rw [mon_len]; omega), tt_shift (by rw [mon_len]; omega)] at e
    have f0 := mon_fr 0 (by omega)
    have f1 := mon_fr 1 (by omega)
    rw [f0.1, f0.2, f1.1, f1.2] at e
    obtain ⟨p0, p1, p2⟩ := mon_first
    have e2 : psum (monL 4800) (1 + 1) = 59 := p2
    have e3 : psum (monL 4800) (0 + 1) = 31 := p1
    rw [e2, e3, p0] at e
    generalize monP / _ = D at e
    omega
  · exact h
theorem mon_span : spanE 0 (ofP monP monS) (ofL monP monS) 1 = 0 ∧ spanF 0 (ofP monP monS) (ofL monP monS) 1 = 31 ∧ spanT 0 (ofP monP monS) (ofL monP monS) 1 = 59 := by
  have hf0 : fr monS 0 = 0 := (mon_fr 0 (by omega)).1
  have hV := mkR_ok mon_PL (by rw [hf0]; decide)
  rw [hf0] at hV
  have h2 := mon_two
  have hl : (shiftL monS (fr monS 0)).length = 4800 := by rw [shiftL_len, mon_len]
  obtain ⟨m1, m2, m3, _⟩ := leastN_spec (p := monP) (l := shiftL monS (fr monS 0)) (by omega)
  have hm : leastN monP (shiftL monS (fr monS 0)) = ofM monP monS := rfl
  have hlen : (ofL monP monS).length = ofM monP monS := by unfold ofL; rw [List.length_take]; omega
  obtain ⟨p0, p1, p2⟩ := mon_first
  have f1 := mon_fr 1 (by omega)
  have e1 : fr (ofL monP monS) 1 = 31 := by
    unfold ofL; rw [fr_take (by omega), fr_shift (by rw [mon_len]; omega), f1.1, hf0, p1]; rfl
  have e2 : tt (ofL monP monS) 1 = 59 := by
    have e2 : psum (monL 4800) (1 + 1) = 59 := p2
    unfold ofL; rw [tt_take (by omega), tt_shift (by rw [mon_len]; omega), f1.2, hf0, e2]; rfl
  have d1 : (1 : Int) / ((ofL monP monS).length : Int) = 0 := Int.ediv_eq_zero_of_lt (by omega) (by omega)
  have d2 : (1 : Int) % ((ofL monP monS).length : Int) = 1 := Int.emod_eq_of_lt (by omega) (by omega)
  have a1 : atF 0 (ofP monP monS) (ofL monP monS) 1 = 31 := by
    unfold atF; rw [d1, d2]
    show fr (ofL monP monS) 1 + _ = _
    rw [e1]; simp
  have a2 : atT 0 (ofP monP monS) (ofL monP monS) 1 = 59 := by
    unfold atT; rw [d1, d2]
    show tt (ofL monP monS) 1 + _ = _
    rw [e2]; simp
  have ho : onB 0 (ofP monP monS) (ofL monP monS) 1 = true := by rw [onB, a1, a2]; decide
  have := spanE_on hV.back ho
  rw [a1, a2] at this
  exact this
theorem weeks_1 : m_granule_Weeks std 1 = some (-3, 7, [(0, 7)], 0) := by kernel_rfl
theorem wspan_0 : m_granule_Span std (-3) 7 0 [(0, 7)] = some (-3, 4, 0) := by kernel_rfl
theorem p_law15_awake : m_law15_awake std = some true := by
  rw [m_law15_awake_eq]
  have hf0 : fr monS 0 = 0 := (mon_fr 0 (by omega)).1
  have hV := mkR_ok mon_PL (by rw [hf0]; decide)
  rw [hf0] at hV
  have h5 := hV.n5
  obtain ⟨s1, s2, s3⟩ := mon_span
  have hs := p_granule_Span 0 (ofP monP monS) 1 (ofL monP monS) (by omega) (by decide) (by decide)
  rw [s1, s2, s3] at hs
  refine bB weeks_1 (bB wspan_0 (bB p_granule_Months (bB hs (bB (v := true) ?_ rfl))))
  exact bT rfl (bT rfl (bT rfl (bT rfl rfl)))

/-! points -/
theorem p_pts_loop {o p : Int} {l : List Sp} (hv : Vd o p l) : loop (m_granule_Points_L1 std p l (o % p)) (0, ([] : List Sp)) = some (l.flatMap (ptS p (o % p))) := by
  have hp := hv.p1
  have hp2 := hv.p2
  have h5 := hv.n5
  have hm : 0 ≤ o % p ∧ o % p < p := div_bd hp
  have e0 : ([] : List Sp) = (l.take 0).flatMap (ptS p (o % p)) := by simp
  have hL := loop_up (B := m_granule_Points_L1 std p l (o % p)) (n := l.length) (fun i => (l.take i).flatMap (ptS p (o % p))) (e := l.flatMap (ptS p (o % p))) (by omega) (fun i hi => ?_) ?_
  · rw [← e0] at hL; exact hL
  · rw [m_granule_Points_L1_eq]
    have hb := hv.bd hi
    have hlen : ((l.take i).flatMap (ptS p (o % p))).length ≤ 10000 := by
      have := ptL_len p (o % p) (l.take i)
      rw [List.length_take] at this
      omega
    have e1 : (l.take (i + 1)).flatMap (ptS p (o % p)) = (l.take i).flatMap (ptS p (o % p)) ++ ptS p (o % p) (fr l i, tt l i) := by
      rw [take_succ' l hi, List.flatMap_append]
      simp
    rw [e1]
    generalize (l.take i).flatMap (ptS p (o % p)) = acc at *
    unfold ptS
    simp only [Int.toNat_natCast, fr_def, tt_def]
    refine bT (dT (by omega)) (gX (by omega) (gK hi (gI (by omega) (gI (by omega) ?_))))
    by_cases c1 : tt l i + o % p ≤ p
    · rw [if_pos c1]
      exact bB (bT (dT c1) (gR (by omega) (gR (by simp) rfl))) (gI (by omega) (by simp))
    · rw [if_neg c1]
      by_cases c2 : p ≤ fr l i + o % p
      · rw [if_pos c2]
        exact bB (bF (dF c1) (bB (bT (dT c2) (gI (by omega) (gI (by omega) (gR (by omega) (gR (by simp) rfl))))) rfl)) (gI (by omega) (by simp))
      · rw [if_neg c2]
        exact bB (bF (dF c1) (bB (bF (dF c2) (gI (by omega) (gR (by omega) (gR (by simp) rfl)))) rfl)) (gI (by omega) (by simp))
  · rw [m_granule_Points_L1_eq, List.take_length]
    exact bF (dF (by omega)) rfl
theorem cov_dec (o p : Int) (l : List Sp) (x : Int) : memB l ((x - o) % p) = true ↔ Cov o p l x := memB_iff
theorem p_granule_Points {o p : Int} {l : List Sp} (hv : Vd o p l) (hl : l.length ≤ 300) : ∃ r : Int × List Sp × Int, m_granule_Points std o p l = some r ∧ (r = (0, [], 5) ∨ Good2 (fun x => memB l ((x - o) % p)) r.1 r.2.1 r.2.2) := by
  have hp := hv.p1
  have hp2 := hv.p2
  have o1 := hv.o1
  have o2 := hv.o2
  have hm : 0 ≤ o % p ∧ o % p < p := div_bd hp
  have hlen := ptL_len p (o % p) l
  obtain ⟨r, e, hr⟩ := p_periodic_Of p (l.flatMap (ptS p (o % p))) (by omega)
  refine ⟨r, ?_, ?_⟩
  · rw [m_granule_Points_eq, p_granule_Valid o p l (by omega), hv.back]
    exact bB rfl (bF rfl (bB (p_integer_Mod _ _ (by omega) (by omega) (by omega) (by omega)) (bB (p_pts_loop hv) (bB e rfl))))
  · have hall : ∀ t ∈ l.flatMap (ptS p (o % p)), 0 ≤ t.1 ∧ t.1 < t.2 ∧ t.2 ≤ p := fun t ht => by
      obtain ⟨s, hs, h⟩ := List.mem_flatMap.1 ht
      obtain ⟨k, hk, e⟩ := List.getElem_of_mem hs
      have hb := hv.bd hk
      have e2 : l.getD k (0, 0) = s := by rw [List.getD_eq_getElem?_getD, List.getElem?_eq_getElem hk]; exact e
      have e3 : fr l k = s.1 := by unfold fr; rw [e2]
      have e4 : tt l k = s.2 := by unfold tt; rw [e2]
      exact ptS_ok hm.1 hm.2 (by omega) (by omega) (by omega) t h
    have hsp : spsB (l.flatMap (ptS p (o % p))) = true := by
      unfold spsB
      refine List.all_eq_true.2 fun t ht => ?_
      have := hall t ht
      exact svB_iff.2 ⟨by omega, by omega, by omega⟩
    unfold IsOf at hr
    have h0 : ¬ (p < 1 ∨ 12622780800 < p ∨ spsB (l.flatMap (ptS p (o % p))) = false) := by
      rintro (h | h | h)
      · omega
      · omega
      · rw [hsp] at h; cases h
    rw [if_neg h0, if_neg (by omega)] at hr
    obtain ⟨l', s', hm', _, hnf⟩ := hr
    rcases hnf.good s' hp2 with h | h
    · exact .inl h
    · refine .inr (h.congr fun x => ?_)
      rw [Bool.eq_iff_iff, psB_iff, cov_dec]
      unfold PS
      rw [hm', ptL_memF hv]
      have e : Cov o p l (x % p) ↔ Cov o p l x := by
        unfold Cov
        rw [Int.sub_emod, Int.emod_emod_of_dvd _ (Int.dvd_refl _), ← Int.sub_emod]
      rw [e]
      have := Int.emod_nonneg x (show p ≠ 0 by omega)
      have := Int.emod_lt_of_pos x (show 0 < p by omega)
      exact ⟨fun h => h.2.2, fun h => ⟨by omega, by omega, h⟩⟩

/-! the granule at a number -/
theorem p_granule_at {o p k : Int} {l : List Sp} (hd : Vd o p l) (hk1 : -9000000000000000000 ≤ k) (hk2 : k ≤ 9000000000000000000) (hq1 : -1125899906842624 ≤ p * (k / (l.length : Int))) (hq2 : p * (k / (l.length : Int)) ≤ 1125899906842624) :
    m_granule_at std o p k l = some (atF o p l k, atT o p l k) := by
  have h0 := hd.n0
  have h5 := hd.n5
  have hp1 := hd.p1
  have hp2 := hd.p2
  have hr : 0 ≤ k % (l.length : Int) ∧ k % (l.length : Int) < (l.length : Int) := div_bd (by omega)
  have hbd := hd.bd (k := (k % (l.length : Int)).toNat) (by omega)
  have hh1 := hd.o1
  have hh2 := hd.o2
  have hsm := mul_small (q := k / (l.length : Int)) h0 h5 hp1 hq1 hq2
  have he : k - (l.length : Int) * (k / (l.length : Int)) = k % (l.length : Int) := (Int.emod_def k _).symm
  rw [m_granule_at_eq]
  refine bB (p_integer_Floor _ _ (by omega) (by omega) (by omega) (by omega)) ?_
  simp only [fr_def, tt_def, he]
  exact gI (by omega) (gI (by omega) (gI (by omega) (gI (by omega) (gX (by omega) (gK (by omega) (gI (by omega) (gI (by omega) rfl)))))))
theorem p_granule_Find {o p x : Int} {l : List Sp} (hv : Vd o p l) (hx : lineB x = true) : ∃ n, m_granule_Find std o p x l = some (n, memB l ((x - o) % p)) := by
  have h0 := hv.n0
  have h5 := hv.n5
  have hp := hv.p1
  have hp2 := hv.p2
  have hx' := lineB_iff.1 hx
  obtain ⟨b1, b2, b3, b4, b5, b6, b7⟩ := near_q (x := x) hv (by omega) (by omega)
  have hsm := mul_small (q := (x - o) / p) h0 h5 hp (by omega) (by omega)
  have hr : 0 ≤ (x - o) % p ∧ (x - o) % p < p := div_bd hp
  have hdm := Int.emod_add_mul_ediv (x - o) p
  have ht := lastTo_lt (l := l) (r := (x - o) % p) l.length h0
  obtain ⟨a, b⟩ := lastTo_spec (l := l) (r := (x - o) % p) (by rw [hv.f0]; exact hr.1) l.length h0
  obtain ⟨q1, q2, e1, e2⟩ := at_mk o p ((x - o) / p) ht
  have hn : nearN o p l x = (l.length : Int) * ((x - o) / p) + (lastTo l ((x - o) % p) l.length : Int) := rfl
  rw [m_granule_Find_eq, p_granule_Valid o p l (by omega), hv.back]
  have hat : m_granule_at std o p (nearN o p l x) l = some (atF o p l (nearN o p l x), atT o p l (nearN o p l x)) :=
    p_granule_at hv (by rw [hn]; omega) (by rw [hn]; omega) (by rw [hn, q1]; omega) (by rw [hn, q1]; omega)
  have hT : atT o p l (nearN o p l x) = tt l (lastTo l ((x - o) % p) l.length) + (o + p * ((x - o) / p)) := by rw [hn]; exact e2
  have hiff : memB l ((x - o) % p) = decide (x < atT o p l (nearN o p l x)) := by
    rw [Bool.eq_iff_iff, memB_iff, decide_eq_true_eq, hT]
    constructor
    · intro h
      obtain ⟨j, hj, h1, h2⟩ := mem_idx.1 h
      have hle : j ≤ lastTo l ((x - o) % p) l.length := by
        rcases Nat.lt_or_ge (lastTo l ((x - o) % p) l.length) j with h3 | h3
        · have := b j h3 hj; omega
        · exact h3
      have := (asc_mono hv.asc _ j hle ht).2
      omega
    · intro h
      exact mem_idx.2 ⟨_, ht, a, by omega⟩
  rw [hiff]
  by_cases hc : atT o p l (nearN o p l x) ≤ x
  · refine ⟨0, ?_⟩
    rw [dF (show ¬ x < atT o p l (nearN o p l x) by omega)]
    exact bB (v := false) (bB rfl (bF rfl (bB (p_granule_line _) (by rw [hx]; rfl)))) (bF rfl (bB (p_granule_Near hv hx) (bB hat (bT (dT hc) rfl))))
  · refine ⟨nearN o p l x, ?_⟩
    rw [dT (show x < atT o p l (nearN o p l x) by omega)]
    exact bB (v := false) (bB rfl (bF rfl (bB (p_granule_line _) (by rw [hx]; rfl)))) (bF rfl (bB (p_granule_Near hv hx) (bB hat (bF (dF hc) rfl))))
theorem p_granule_Gapless {o p : Int} {l : List Sp} (hv : Vd o p l) : m_granule_Gapless std o p l = some (gplB p l) := by
  have h5 := hv.n5
  have hp := hv.p1
  have st : ∀ i, i < l.length → m_granule_Gapless_L1 std p l (i : Int) = if (tt l i == nextAt p l i) = true then some (.inl ((i + 1 : Nat) : Int)) else some (.inr (.inl ())) := fun i hi => by
    rw [m_granule_Gapless_L1_eq]
    simp only [Int.toNat_natCast, fr_def, tt_def, show ((i : Int) + 1).toNat = i + 1 by omega]
    refine bT (dT (by omega)) (gX (by omega) (gK hi (gI (by omega) (bB (v := nextAt p l i) ?_ ?_))))
    · unfold nextAt
      by_cases h : i + 1 < l.length
      · rw [if_pos h]; exact bT (dT (by omega)) (gX (by omega) (gK h rfl))
      · rw [if_neg h]; exact bF (dF (by omega)) rfl
    · cases (tt l i == nextAt p l i) with
      | true => rfl
      | false => rfl
  rw [m_granule_Gapless_eq, p_granule_Valid o p l (by omega), hv.back]
  refine bB rfl (bF rfl ?_)
  rcases first_or (fun i => tt l i == nextAt p l i) l.length with h | ⟨m, hm, h1, h2⟩
  · have e : gplB p l = true := List.all_eq_true.2 fun i hi => h i (List.mem_range.1 hi)
    rw [e]
    refine bB (v := .inr ()) (loop_to' (n := l.length) (fun i => (i : Int)) (by omega) (fun i hi => by rw [st i hi, if_pos (h i hi)]) ?_) rfl
    rw [m_granule_Gapless_L1_eq]; exact bF (dF (by omega)) rfl
  · have e : gplB p l = false := by
      rw [← Bool.not_eq_true]
      intro h
      have := List.all_eq_true.1 h m (List.mem_range.2 hm)
      rw [h1] at this; cases this
    rw [e]
    exact bB (v := .inl ()) (loop_to' (n := m) (fun i => (i : Int)) (by omega) (fun i hi => by rw [st i (by omega), if_pos (h2 i hi)]) (by rw [st m hm, if_neg (by rw [h1]; decide)])) rfl

/-! all integers -/
theorem is_of_1 : IsOf 1 [(0, 1)] (1, [(0, 1)], 0) := by
  have hs : Std 1 [((0 : Int), (1 : Int))] := ⟨by decide, ⟨by decide, by simp⟩, by decide⟩
  obtain ⟨d, hb, e⟩ := p_ref13_Least hs (by decide) (by decide)
  have e2 : m_ref13_Least std 1 [((0 : Int), (1 : Int))] = some (1, [(0, 1)]) := by kernel_rfl
  rw [e2] at e
  injection e with e
  injection e with e3 e4
  refine IsOf.mk' (l' := [(0, 1)]) (by decide) (by decide) hs (fun x => ?_) (by decide) ⟨d, hb, by rw [← e4, ← e3]; rfl⟩
  unfold Mem MemF InF
  simp only [List.mem_cons, List.not_mem_nil, or_false]
  constructor
  · rintro ⟨s, h, h1, h2⟩
    subst h; exact ⟨_, rfl, x, h1, h2, Int.emod_eq_of_lt h1 h2⟩
  · rintro ⟨s, h, y, h1, h2, h3⟩
    subst h; simp only [] at h1 h2; exact ⟨_, rfl, by simp only []; omega, by simp only []; omega⟩
theorem of_1 : m_periodic_Of std 1 [(0, 1)] = some (1, [(0, 1)], 0) := by
  obtain ⟨r, e, h⟩ := p_periodic_Of 1 [(0, 1)] (by decide)
  rw [e, h.uniq is_of_1]
theorem all_good : Good2 (fun _ => true) 1 [(0, 1)] 0 := by
  have h := is_of_1
  unfold IsOf at h
  rw [if_neg (by decide), if_neg (by decide)] at h
  obtain ⟨l', s', hm', _, hnf⟩ := h
  rcases hnf.good s' (by decide) with h | h
  · cases h
  · refine h.congr fun x => ?_
    show psB 1 l' x = true
    rw [psB_iff]
    unfold PS
    rw [hm', Int.emod_one]
    exact ⟨(0, 1), by simp, 0, by decide, by decide, by decide⟩

theorem pl_GranulePoints (o p x : Int) (l : List Sp) (hx1 : -9223372036854775808 ≤ x) (hx2 : x ≤ 9223372036854775807) : m_law15_GranulePoints std o p x l = some true := by
  rw [m_law15_GranulePoints_eq]
  refine bB p_law15_awake (bF rfl ?_)
  by_cases h3 : 300 < l.length
  · exact bT (dT (by omega)) rfl
  refine bF (dF (by omega)) ?_
  cases hv : validB o p l with
  | false =>
    have hPt : m_granule_Points std o p l = some (0, [], 1) := by
      rw [m_granule_Points_eq, p_granule_Valid o p l (by omega), hv]
      exact bB rfl (bT rfl rfl)
    exact bB hPt (bB (by rw [p_granule_Valid o p l (by omega), hv]) (bT rfl rfl))
  | true =>
    have v := Vd.of hv
    obtain ⟨⟨r1, r2, r3⟩, er, hr⟩ := p_granule_Points v (by omega)
    refine bB er (bB (by rw [p_granule_Valid o p l (by omega), hv]) (bF rfl ?_))
    rcases hr with hr | hr
    · injection hr with _ hr
      injection hr with _ hr
      rw [hr]
      exact bT rfl rfl
    · have e0 : r3 = 0 := hr.e0
      rw [e0]
      refine bF rfl ?_
      have hfin : Option.bind (bif ((0 : Int) == 0) then Option.bind (m_granule_Gapless std o p l) fun b130 => Option.bind (m_periodic_Equal std r1 1 r2 [(0, 1)]) fun b131 => some (b130 == b131) else some false) (fun x406 => some x406) = some true := by
        refine bB (v := true) (bT rfl (bB (p_granule_Gapless v) ?_)) rfl
        cases hg : gplB p l with
        | true =>
          have hc := (gplB_iff v).1 hg
          have g2 : Good2 (fun _ => true) r1 r2 r3 := hr.congr fun y => (cov_dec o p l y).2 (hc y)
          exact bB (g2.equal all_good) rfl
        | false =>
          refine bB (p_periodic_Equal _ _ _ _) ?_
          have hne : ¬ (r1 = 1 ∧ r2 = [(0, 1)]) := by
            rintro ⟨e1, e2⟩
            have hcc : ∀ y, Cov o p l y := fun y => by
              have a1 := hr.mem y
              have a2 := all_good.mem y
              rw [e1, e2] at a1
              rw [← cov_dec, ← a1, a2]
            have := (gplB_iff v).2 hcc
            rw [hg] at this
            cases this
          have : (pvB r1 r2 && (pvB 1 [(0, 1)] && ((r1 == 1) && decide (r2 = [(0, 1)])))) = false := by
            rw [← Bool.not_eq_true]
            intro h
            simp only [Bool.and_eq_true, beq_iff_eq, decide_eq_true_eq] at h
            exact hne h.2.2
          rw [this]
          rfl
      have hgo : ∀ {z : Int × Bool}, m_granule_Find std o p x l = some z → (lineB x = true → z.2 = memB l ((x - o) % p)) → Option.bind (m_granule_Find std o p x l) (fun (_, b123) =>
          Option.bind (Option.bind (m_ref10_Line std x) fun b124 => bif b124 then Option.bind (m_periodic_Has std r1 x r2) fun b128 => some (!(b123 == b128)) else some false) fun x403 =>
          bif x403 then some false else Option.bind (m_periodic_Of std 1 [(0, 1)]) fun (n169, l229, n170) => Option.bind (bif (n170 == 0) then Option.bind (m_granule_Gapless std o p l) fun b130 => Option.bind (m_periodic_Equal std r1 n169 r2 l229) fun b131 => some (b130 == b131) else some false) fun x406 => some x406) = some true := by
        rintro ⟨z1, z2⟩ hz hz2
        refine bB hz (bB (v := false) ?_ (bF rfl (bB of_1 hfin)))
        have hl : m_ref10_Line std x = some (lineB x) := by
          rw [m_ref10_Line_eq]; unfold lineB; cases decide (-4398046511104 ≤ x) <;> rfl
        refine bB hl ?_
        cases hlx : lineB x with
        | false => rfl
        | true =>
          have e2 : z2 = memB l ((x - o) % p) := hz2 hlx
          have hH : m_periodic_Has std r1 x r2 = some (memB l ((x - o) % p)) := by
            rw [p_periodic_Has r1 x r2 hx1 hx2, pvB_t hr.v, hr.mem]; rfl
          refine bT rfl (bB hH ?_)
          rw [e2]
          simp
      cases hlx : lineB x with
      | true =>
        obtain ⟨n, hn⟩ := p_granule_Find v hlx
        exact hgo hn (fun _ => rfl)
      | false =>
        have hF : m_granule_Find std o p x l = some (0, false) := by
          rw [m_granule_Find_eq, p_granule_Valid o p l (by omega), hv]
          exact bB (v := true) (bB rfl (bF rfl (bB (p_granule_line _) (by rw [hlx]; rfl)))) (bT rfl rfl)
        exact hgo hF (fun h => by rw [hlx] at h; cases h)
end Go.Proofs.Ytlpbdikmhngmfaa.Gr
namespace Go.Proofs.Ytlpbdikmhngmfaa
theorem pl_GranulePoints (o p x : Int) (l : List Sp) (hx1 : -9223372036854775808 ≤ x) (hx2 : x ≤ 9223372036854775807) : m_law15_GranulePoints std o p x l = some true := Gr.pl_GranulePoints o p x l hx1 hx2
end Go.Proofs.Ytlpbdikmhngmfaa
