/-
  GroupPicks, the plain law.
-/
import Derived.Test.YtoklfjkanipjkaaPSplits
namespace Go.Proofs.Ytoklfjkanipjkaa
open Go.RowKit

def kk (ks : List Int) (i : Nat) : Int := List.getD ks i 0
theorem kk_def (ks : List Int) (i : Nat) : List.getD ks i 0 = kk ks i := rfl
def pkB (m : Int) (ks : List Int) (i : Nat) : Bool := decide (0 ≤ kk ks i) && (decide (kk ks i < m) && (i == 0 || decide (kk ks (i - 1) < kk ks i)))
theorem pkB_iff {m : Int} {ks : List Int} {i : Nat} : pkB m ks i = true ↔ 0 ≤ kk ks i ∧ kk ks i < m ∧ (i = 0 ∨ kk ks (i - 1) < kk ks i) := by simp [pkB]

theorem p_group_Pick_L1 (ks : List Int) (mi : Int) (hl : ks.length ≤ 5000) {i : Nat} (hi : i < ks.length) : m_group_Pick_L1 std ks mi (i : Int) = some (if pkB mi ks i then .inl ((i + 1 : Nat) : Int) else .inr (.inl ())) := by
  have e1 : ((i : Int) - 1).toNat = i - 1 := by omega
  rw [m_group_Pick_L1_eq]
  simp only [Int.toNat_natCast, kk_def, e1]
  refine bT (dT (by omega)) (gX (by omega) (gK (by omega) ?_))
  by_cases h : pkB mi ks i = true
  · rw [if_pos h]
    rw [pkB_iff] at h
    obtain ⟨h1, h2, h3⟩ := h
    refine bB (v := false) (bF (dF (by omega)) (bF (dF (by omega)) ?_)) (bF rfl (gI (by omega) rfl))
    rcases Nat.eq_zero_or_pos i with h0 | h0
    · exact bF (dF (by omega)) rfl
    · refine bT (dT (by omega)) (gI (by omega) (gX (by omega) (gK (by omega) (congrArg some (dF (by omega))))))
  · rw [if_neg h]
    have hn : ¬ (0 ≤ kk ks i ∧ kk ks i < mi ∧ (i = 0 ∨ kk ks (i - 1) < kk ks i)) := fun h' => h (pkB_iff.2 h')
    refine bB (v := true) ?_ (bT rfl rfl)
    by_cases h1 : kk ks i < 0
    · exact bT (dT h1) rfl
    · by_cases h2 : mi ≤ kk ks i
      · exact bF (dF h1) (bT (dT h2) rfl)
      · refine bF (dF h1) (bF (dF h2) (bT (dT (by omega)) (gI (by omega) (gX (by omega) (gK (by omega) (congrArg some (dT (by omega))))))))
theorem p_ref16_Pick_L1 (ks : List Int) (mi : Int) (hl : ks.length ≤ 5000) {i : Nat} (hi : i < ks.length) : m_ref16_Pick_L1 std ks mi (i : Int) = some (if pkB mi ks i then .inl ((i + 1 : Nat) : Int) else .inr (.inl ())) := by
  have e1 : ((i : Int) - 1).toNat = i - 1 := by omega
  rw [m_ref16_Pick_L1_eq]
  simp only [Int.toNat_natCast, kk_def, e1]
  refine bT (dT (by omega)) ?_
  by_cases h : pkB mi ks i = true
  · rw [if_pos h]
    rw [pkB_iff] at h
    obtain ⟨h1, h2, h3⟩ := h
    refine bB (v := false) (bF (dF (by omega)) (bF (dF (by omega)) ?_)) (bF rfl (gI (by omega) rfl))
    rcases Nat.eq_zero_or_pos i with h0 | h0
    · exact bF (dF (by omega)) (gX (by omega) (gK (by omega) rfl))
    · refine bT (dT (by omega)) (gX (by omega) (gK (by omega) (gI (by omega) (gX (by omega) (gK (by omega) (congrArg some (dF (by omega))))))))
  · rw [if_neg h]
    have hn : ¬ (0 ≤ kk ks i ∧ kk ks i < mi ∧ (i = 0 ∨ kk ks (i - 1) < kk ks i)) := fun h' => h (pkB_iff.2 h')
    refine bB (v := true) ?_ (bT rfl rfl)
    by_cases h1 : kk ks i < 0
    · exact bT (dT h1) (gX (by omega) (gK (by omega) rfl))
    · by_cases h2 : mi ≤ kk ks i
      · exact bF (dF h1) (bT (dT h2) (gX (by omega) (gK (by omega) rfl)))
      · refine bF (dF h1) (bF (dF h2) (bT (dT (by omega)) (gX (by omega) (gK (by omega) (gI (by omega) (gX (by omega) (gK (by omega) (congrArg some (dT (by omega))))))))))
theorem p_Pick_loops (ks : List Int) (mi : Int) (hl : ks.length ≤ 5000) :
    (∃ k, k < ks.length ∧ loop (m_group_Pick_L1 std ks mi) 0 = some (.inl ()) ∧ loop (m_ref16_Pick_L1 std ks mi) 0 = some (.inl ())) ∨
    ((∀ k, k < ks.length → pkB mi ks k = true) ∧ loop (m_group_Pick_L1 std ks mi) 0 = some (.inr ()) ∧ loop (m_ref16_Pick_L1 std ks mi) 0 = some (.inr ())) := by
  rcases first_or (pkB mi ks) ks.length with hB | ⟨k, hk, h, hB⟩
  · refine .inr ⟨hB, ?_, ?_⟩
    · refine loop_to' (n := ks.length) (fun i => (i : Int)) (by omega) (fun i hi => by rw [p_group_Pick_L1 ks mi hl hi, if_pos (hB i hi)]) ?_
      rw [m_group_Pick_L1_eq]; exact bF (dF (by omega)) rfl
    · refine loop_to' (n := ks.length) (fun i => (i : Int)) (by omega) (fun i hi => by rw [p_ref16_Pick_L1 ks mi hl hi, if_pos (hB i hi)]) ?_
      rw [m_ref16_Pick_L1_eq]; exact bF (dF (by omega)) rfl
  · refine .inl ⟨k, hk, ?_, ?_⟩
    · exact loop_to' (n := k) (fun i => (i : Int)) (by omega) (fun i hi => by rw [p_group_Pick_L1 ks mi hl (by omega), if_pos (hB i hi)]) (by rw [p_group_Pick_L1 ks mi hl hk, if_neg (by rw [h]; simp)])
    · exact loop_to' (n := k) (fun i => (i : Int)) (by omega) (fun i hi => by rw [p_ref16_Pick_L1 ks mi hl (by omega), if_pos (hB i hi)]) (by rw [p_ref16_Pick_L1 ks mi hl hk, if_neg (by rw [h]; simp)])

def pkK (o p : Int) (l : List Sp) (m : Nat) (ks : List Int) (b r : Nat) : Sp := (atF o p l ((b : Int) * m + kk ks r), atT o p l ((b : Int) * m + kk ks r))
def pkF (o p : Int) (l : List Sp) (m : Nat) (ks : List Int) (i : Nat) : Sp := pkK o p l m ks (i / ks.length) (i % ks.length)
def pkL (o p : Int) (l : List Sp) (m : Nat) (ks : List Int) : List Sp := gl (l.length / Nat.gcd l.length m * ks.length) (pkF o p l m ks)
theorem pkF_at (o p : Int) (l : List Sp) (m : Nat) {ks : List Int} {r : Nat} (b : Nat) (hr : r < ks.length) : pkF o p l m ks (b * ks.length + r) = pkK o p l m ks b r := by rw [pkF, (dm hr).1, (dm hr).2]

section
variable {o p : Int} {l : List Sp} {m : Nat} {ks : List Int}
structure PkOk (o p : Int) (l : List Sp) (m : Nat) (ks : List Int) : Prop where
  hv : Vd o p l
  l40 : l.length ≤ 40
  k40 : ks.length ≤ 50
  k0 : 0 < ks.length
  hm : 1 ≤ m
  hm2 : m ≤ 12622780800
  hB : ∀ k, k < ks.length → pkB m ks k = true
theorem PkOk.cnt (h : PkOk o p l m ks) : l.length / Nat.gcd l.length m * ks.length ≤ 2000 := Nat.mul_le_mul (Nat.le_trans (Nat.div_le_self _ _) h.l40) h.k40
theorem PkOk.at (h : PkOk o p l m ks) {b r : Nat} (hb : b < l.length / Nat.gcd l.length m) (hr : r < ks.length) : 0 ≤ (b : Int) * (m : Int) ∧ (b : Int) * (m : Int) + m ≤ ((l.length / Nat.gcd l.length m : Nat) : Int) * (m : Int) ∧ ((l.length / Nat.gcd l.length m : Nat) : Int) * (m : Int) ≤ 63113904000000 ∧ 0 ≤ kk ks r ∧ kk ks r < m := by
  have hN := Nat.div_le_self l.length (Nat.gcd l.length m)
  have h40 := h.l40
  obtain ⟨a1, a2, a3, a4⟩ := arg_bd (m := m) hb (by omega) h.hm2
  have := pkB_iff.1 (h.hB r hr)
  omega
theorem PkOk.ok (h : PkOk o p l m ks) (hb : bP p l m ≤ 12622780800) {b r : Nat} (hbn : b < l.length / Nat.gcd l.length m) (hr : r < ks.length) : AtOk p l ((b : Int) * m + kk ks r) := by
  have := h.at hbn hr
  exact grp_ok (first := 0) h.hv (by omega) (by omega) hb (by omega) (by omega)
theorem pk_PL (h : PkOk o p l m ks) (hb : bP p l m ≤ 12622780800) : PL (bP p l m) (pkL o p l m ks) := by
  have hv := h.hv
  have h0 := hv.n0
  have hk0 := h.k0
  have hcnt := h.cnt
  have hp1 := hv.p1
  have ho1 := hv.o1
  have ho2 := hv.o2
  have hg := gcd_pos' (m := m) h0
  have hN : 0 < l.length / Nat.gcd l.length m := Nat.div_pos hg.2 hg.1
  have hM : 1 ≤ m / Nat.gcd l.length m := Nat.div_pos (Nat.gcd_le_right _ h.hm) hg.1
  have hbP : 1 ≤ bP p l m := by
    have h9 : p * 1 ≤ bP p l m := Int.mul_le_mul_of_nonneg_left (by omega) (by omega)
    omega
  have hlen : (pkL o p l m ks).length = l.length / Nat.gcd l.length m * ks.length := gl_len _ _
  have hpos : 0 < l.length / Nat.gcd l.length m * ks.length := Nat.mul_pos hN hk0
  have key (b r : Nat) (hbn : b < l.length / Nat.gcd l.length m) (hr : r < ks.length) : fr (pkL o p l m ks) (b * ks.length + r) = atF o p l ((b : Int) * m + kk ks r) ∧ tt (pkL o p l m ks) (b * ks.length + r) = atT o p l ((b : Int) * m + kk ks r) := by
    have hi : b * ks.length + r < l.length / Nat.gcd l.length m * ks.length := by
      have : (b + 1) * ks.length ≤ l.length / Nat.gcd l.length m * ks.length := Nat.mul_le_mul_right _ hbn
      rw [Nat.add_mul, Nat.one_mul] at this
      omega
    rw [pkL, fr_gl hi, tt_gl hi, pkF_at o p l m b hr]
    exact ⟨rfl, rfl⟩
  have k0 := key 0 0 hN hk0
  have ez : ((0 : Nat) : Int) * (m : Int) = 0 := by simp
  have hA := h.at hN hk0
  rw [ez] at hA
  simp only [Nat.zero_mul, Nat.add_zero] at k0
  rw [ez, Int.zero_add] at k0
  have hend := (at_add o p h0 0 ((m / Nat.gcd l.length m : Nat) : Int)).1
  rw [← blk_mul', Int.zero_add] at hend
  have a0 := (at_in o p h0).1
  rw [hv.f0] at a0
  have a0' : atF o p l 0 = o := by rw [Int.zero_add] at a0; exact a0
  have m1 := at_mono' hv (a := 0) (b := kk ks 0) (by omega)
  have m2 := at_mono' hv (a := kk ks 0) (b := ((l.length / Nat.gcd l.length m : Nat) : Int) * (m : Int)) (by omega)
  have hbd : o ≤ atF o p l (kk ks 0) ∧ atF o p l (kk ks 0) ≤ o + bP p l m := by
    unfold bP
    omega
  refine ⟨by omega, by omega, hbP, hb, ?_, ?_, ?_, ?_, ?_⟩
  · intro i hi
    rw [hlen] at hi
    obtain ⟨b, r, rfl, hr, hbn⟩ := dm_ex hi
    rw [(key b r hbn hr).1, (key b r hbn hr).2]
    exact (at_lt hv _).1
  · intro i hi
    rw [hlen] at hi
    obtain ⟨b, r, rfl, hr, hbn⟩ := dm_ex (show i < l.length / Nat.gcd l.length m * ks.length by omega)
    have hAt := h.at hbn hr
    rw [(key b r hbn hr).2]
    have hl := at_lt hv ((b : Int) * m + kk ks r)
    rcases Nat.lt_or_ge (r + 1) ks.length with h1 | h1
    · rw [Nat.add_assoc, (key b (r + 1) hbn h1).1]
      have := pkB_iff.1 (h.hB (r + 1) h1)
      simp only [Nat.add_sub_cancel] at this
      have := at_mono' hv (a := (b : Int) * m + kk ks r + 1) (b := (b : Int) * m + kk ks (r + 1)) (by omega)
      omega
    · have e4 : b * ks.length + r + 1 = (b + 1) * ks.length + 0 := by rw [Nat.add_mul, Nat.one_mul]; omega
      have hb1 : b + 1 < l.length / Nat.gcd l.length m := by
        rw [e4, Nat.add_zero] at hi
        exact Nat.lt_of_mul_lt_mul_right hi
      rw [e4, (key (b + 1) 0 hb1 hk0).1]
      have e5 : ((b + 1 : Nat) : Int) * (m : Int) = (b : Int) * m + m := by rw [Int.natCast_add, Int.add_mul]; simp
      rw [e5]
      have := at_mono' hv (a := (b : Int) * m + kk ks r + 1) (b := (b : Int) * m + m + kk ks 0) (by omega)
      omega
  · rw [hlen, k0.1]
    have e4 : l.length / Nat.gcd l.length m * ks.length - 1 = (l.length / Nat.gcd l.length m - 1) * ks.length + (ks.length - 1) := by
      rw [Nat.sub_mul, Nat.one_mul]
      have : ks.length ≤ l.length / Nat.gcd l.length m * ks.length := Nat.le_mul_of_pos_left _ hN
      omega
    have hAt := h.at (b := l.length / Nat.gcd l.length m - 1) (r := ks.length - 1) (by omega) (by omega)
    rw [e4, (key (l.length / Nat.gcd l.length m - 1) (ks.length - 1) (by omega) (by omega)).2]
    have hl := at_lt hv (((l.length / Nat.gcd l.length m - 1 : Nat) : Int) * m + kk ks (ks.length - 1))
    have hadd := (at_add o p h0 (kk ks 0) ((m / Nat.gcd l.length m : Nat) : Int)).1
    rw [← blk_mul'] at hadd
    have := at_mono' hv (a := ((l.length / Nat.gcd l.length m - 1 : Nat) : Int) * m + kk ks (ks.length - 1) + 1) (b := kk ks 0 + ((l.length / Nat.gcd l.length m : Nat) : Int) * (m : Int)) (by omega)
    unfold bP
    omega
  · rw [k0.1]; omega
  · rw [k0.1]; omega
theorem p_Pick_1 (h : PkOk o p l m ks) (hb : bP p l m ≤ 12622780800) {b r : Nat} (hbn : b < l.length / Nat.gcd l.length m) (hr : r < ks.length) :
    m_group_Pick_1 std ((b * ks.length + r : Nat) : Int) o p (m : Int) l ks = some ((pkK o p l m ks b r).1, (pkK o p l m ks b r).2, true) := by
  have hA := h.at hbn hr
  have hN := Nat.div_le_self l.length (Nat.gcd l.length m)
  have h40 := h.l40
  have k40 := h.k40
  rw [m_group_Pick_1_eq]
  simp only [nat_tdiv, nat_tmod, (dm hr).1, (dm hr).2, Int.toNat_natCast, kk_def]
  exact gZ (by omega) (gI (by omega) (gI (by omega) (gX (by omega) (gK (by omega) (gI (by omega) (bB (p_group_at h.hv (h.ok hb hbn hr)) rfl))))))
theorem p_collect_Picks (h : PkOk o p l m ks) (hb : bP p l m ≤ 12622780800) :
    m_group_collect_3 std (bP p l m) ((l.length / Nat.gcd l.length m * ks.length : Nat) : Int) o p (m : Int) l ks = some (mkR (bP p l m) (pkL o p l m ks)) := by
  have hcnt := h.cnt
  have hP := pk_PL h hb
  have hP0 := hP.n0
  rw [m_group_collect_3_eq]
  refine bB (loop_gl (n := l.length / Nat.gcd l.length m * ks.length) (pkF o p l m ks) (by omega) (fun i hi => ?_) (fun l' => ?_)) ?_
  · obtain ⟨b, r, rfl, hr, hbn⟩ := dm_ex hi
    rw [m_group_collect_3_L1_eq, pkF_at o p l m b hr]
    refine bT (dT (by omega)) (bB (p_Pick_1 h hb hbn hr) (bB (bT rfl (gR (by rw [gl_len]; omega) (gR (by simp) rfl))) (gI (by omega) rfl)))
  · rw [m_group_collect_3_L1_eq]; exact bF (dF (by omega)) rfl
  · exact bF (eF (by have := hP0; unfold pkL at this; omega)) (bB (p_group_made hP) rfl)
theorem cnt_cast : ((l.length / Nat.gcd l.length m : Nat) : Int) * (ks.length : Int) = ((l.length / Nat.gcd l.length m * ks.length : Nat) : Int) := (Int.natCast_mul _ _).symm
theorem p_group_Pick (h : PkOk o p l m ks) (hL : loop (m_group_Pick_L1 std ks (m : Int)) 0 = some (.inr ())) :
    m_group_Pick std o p (m : Int) l ks = some (if bP p l m ≤ 12622780800 then mkR (bP p l m) (pkL o p l m ks) else (0, 0, [], 9)) := by
  have hcnt := h.cnt
  have h40 := h.l40
  have k0 := h.k0
  have hm := h.hm
  have hm2 := h.hm2
  have hcI : 0 ≤ ((l.length / Nat.gcd l.length m : Nat) : Int) * (ks.length : Int) ∧ ((l.length / Nat.gcd l.length m : Nat) : Int) * (ks.length : Int) ≤ 2000 := by rw [cnt_cast]; omega
  rw [m_group_Pick_eq, p_granule_Valid o p l (by omega), h.hv.back, p_group_blocks h.hv h.hm h.hm2]
  refine bB (v := false) (bB rfl (bF rfl (bF (dF (by omega)) (bF (dF (by omega)) (congrArg some (eF (by omega))))))) (bF rfl (bB hL ?_))
  by_cases hb : bP p l m ≤ 12622780800
  · rw [if_pos hb, if_pos hb]
    have e := p_collect_Picks h hb
    rw [← cnt_cast] at e
    exact bB rfl (bB (v := .inr ()) (bF (nF (eT rfl)) (gI (by omega) (bF (dF (show ¬ (5000 : Int) < ((l.length / Nat.gcd l.length m : Nat) : Int) * (ks.length : Int) by omega)) rfl))) (bB e rfl))
  · rw [if_neg hb, if_neg hb]
    exact bB rfl (bB (v := .inl 9) (bT rfl rfl) rfl)
theorem p_Pick_L3 (h : PkOk o p l m ks) (hb : bP p l m ≤ 12622780800) {b : Nat} (hbn : b < l.length / Nat.gcd l.length m) :
    m_ref16_Pick_L3 std o p l ks (m : Int) ((Nat.gcd l.length m : Nat) : Int) ((b : Int), gl (b * ks.length) (pkF o p l m ks)) = some (.inl (((b + 1 : Nat) : Int), gl ((b + 1) * ks.length) (pkF o p l m ks))) := by
  have hcnt := h.cnt
  have hN := Nat.div_le_self l.length (Nat.gcd l.length m)
  have h40 := h.l40
  have k40 := h.k40
  have hbk : b * ks.length + ks.length ≤ l.length / Nat.gcd l.length m * ks.length := by
    have : (b + 1) * ks.length ≤ l.length / Nat.gcd l.length m * ks.length := Nat.mul_le_mul_right _ hbn
    rwa [Nat.add_mul, Nat.one_mul] at this
  rw [m_ref16_Pick_L3_eq]
  simp only [nat_tdiv]
  refine bT (dT (by omega)) (bB (v := gl ((b + 1) * ks.length) (pkF o p l m ks)) ?_ (gI (by omega) rfl))
  have hloop := loop_up (B := m_ref16_Pick_L2 std (b : Int) o p l ks (m : Int)) (n := ks.length) (fun i => gl (b * ks.length + i) (pkF o p l m ks)) (e := gl ((b + 1) * ks.length) (pkF o p l m ks)) (by omega) (fun i hi => ?_) ?_
  · exact hloop
  · have hA := h.at hbn hi
    rw [m_ref16_Pick_L2_eq]
    simp only [Int.toNat_natCast, kk_def]
    refine bT (dT (by omega)) (gI (by omega) (gX (by omega) (gK (by omega) (gI (by omega) (bB (p_ref16_Granule h.hv (h.ok hb hbn hi)) (gR (by rw [gl_len]; omega) (gR (by simp) (gI (by omega) ?_))))))))
    rw [← Nat.add_assoc, gl_succ, pkF_at o p l m b hi]
    rfl
  · rw [m_ref16_Pick_L2_eq, Nat.add_mul, Nat.one_mul]; exact bF (dF (by omega)) rfl
theorem p_ref16_Pick (h : PkOk o p l m ks) (hL : loop (m_ref16_Pick_L1 std ks (m : Int)) 0 = some (.inr ())) :
    m_ref16_Pick std o p (m : Int) l ks = some (if bP p l m ≤ 12622780800 then mkR (bP p l m) (pkL o p l m ks) else (0, 0, [], 9)) := by
  have hcnt := h.cnt
  have h40 := h.l40
  have k0 := h.k0
  have hm := h.hm
  have hm2 := h.hm2
  have hp1 := h.hv.p1
  have h0 := h.hv.n0
  have hcI : 0 ≤ ((l.length / Nat.gcd l.length m : Nat) : Int) * (ks.length : Int) ∧ ((l.length / Nat.gcd l.length m : Nat) : Int) * (ks.length : Int) ≤ 2000 := by rw [cnt_cast]; omega
  have hN := Nat.div_le_self l.length (Nat.gcd l.length m)
  have hg := gcd_pos' (m := m) h0
  have hq := Nat.div_le_self m (Nat.gcd l.length m)
  have z1 := nn (m / Nat.gcd l.length m)
  have z2 := nn (l.length / Nat.gcd l.length m)
  have hdq : 0 ≤ Int.tdiv 12622780800 p ∧ Int.tdiv 12622780800 p ≤ 12622780800 := by
    rw [Int.tdiv_eq_ediv_of_nonneg (by omega)]
    exact ⟨Int.ediv_nonneg (by omega) (by omega), Int.ediv_le_self _ (by omega)⟩
  have hbi := big_iff (p := p) (l := l) (m := m) hp1
  have hb0 : 0 ≤ bP p l m := Int.mul_nonneg (by omega) (nn _)
  rw [m_ref16_Pick_eq, p_ref01_Gcd _ _ (by omega) (by omega) (by omega)]
  refine bB (v := false) (bF (dF (by omega)) (bF (dF (by omega)) (congrArg some (eF (by omega))))) (bF rfl (bB hL ?_))
  refine bB rfl ?_
  simp only [nat_tdiv]
  refine gZ (by omega) (gI (by omega) (gZ (by omega) (gI (by omega) ?_)))
  by_cases hb : bP p l m ≤ 12622780800
  · rw [if_pos hb]
    have hP := pk_PL h hb
    refine bF (dF (by rw [hbi]; exact fun h => h hb)) (gI (by omega) (gI (by omega) (bF (dF (show ¬ (5000 : Int) < ((l.length / Nat.gcd l.length m : Nat) : Int) * (ks.length : Int) by omega)) ?_)))
    have hloop := loop_up (B := m_ref16_Pick_L3 std o p l ks (m : Int) ((Nat.gcd l.length m : Nat) : Int)) (n := l.length / Nat.gcd l.length m) (fun b => gl (b * ks.length) (pkF o p l m ks)) (e := pkL o p l m ks) (by omega) (fun b hbn => p_Pick_L3 h hb hbn) (by rw [m_ref16_Pick_L3_eq]; simp only [nat_tdiv]; exact bF (dF (by omega)) rfl)
    simp only [Nat.zero_mul] at hloop
    exact bB (show loop _ (0, []) = _ from hloop) (gI (show _ ≤ bP p l m ∧ bP p l m ≤ _ by omega) (bB (p_ref16_Make hP) rfl))
  · rw [if_neg hb]
    exact bT (dT (hbi.2 hb)) rfl
/-- bad arguments -/
theorem Pick_bad {mi : Int} (h : validB o p l = false ∨ mi < 1 ∨ 12622780800 < mi ∨ ks.length = 0) (hl : l.length ≤ 1099511627776) : m_group_Pick std o p mi l ks = some (0, 0, [], 1) := by
  rw [m_group_Pick_eq, p_granule_Valid o p l hl]
  refine bB (v := true) (bB rfl ?_) rfl
  cases hv : validB o p l with
  | false => rfl
  | true =>
    refine bF rfl ?_
    by_cases h1 : mi < 1
    · exact bT (dT h1) rfl
    · by_cases h2 : 12622780800 < mi
      · exact bF (dF h1) (bT (dT h2) rfl)
      · refine bF (dF h1) (bF (dF h2) (congrArg some (eT ?_)))
        rcases h with h | h | h | h
        · rw [hv] at h; cases h
        · exact absurd h h1
        · exact absurd h h2
        · omega
theorem rPick_bad {mi : Int} (h : mi < 1 ∨ 12622780800 < mi ∨ ks.length = 0) : m_ref16_Pick std o p mi l ks = some (0, 0, [], 1) := by
  rw [m_ref16_Pick_eq]
  refine bB (v := true) ?_ rfl
  by_cases h1 : mi < 1
  · exact bT (dT h1) rfl
  · by_cases h2 : 12622780800 < mi
    · exact bF (dF h1) (bT (dT h2) rfl)
    · exact bF (dF h1) (bF (dF h2) (congrArg some (eT (by omega))))
theorem Pick_bad2 {mi : Int} (hl : l.length ≤ 1099511627776) (hL : loop (m_group_Pick_L1 std ks mi) 0 = some (.inl ())) : m_group_Pick std o p mi l ks = some (0, 0, [], 1) := by
  by_cases h : validB o p l = false ∨ mi < 1 ∨ 12622780800 < mi ∨ ks.length = 0
  · exact Pick_bad h hl
  · rw [m_group_Pick_eq, p_granule_Valid o p l hl]
    have hv : validB o p l = true := by cases hv : validB o p l with
      | false => exact absurd (.inl hv) h
      | true => rfl
    rw [hv]
    exact bB (v := false) (bB rfl (bF rfl (bF (dF (by omega)) (bF (dF (by omega)) (congrArg some (eF (by omega))))))) (bF rfl (bB hL rfl))
theorem rPick_bad2 {mi : Int} (hL : loop (m_ref16_Pick_L1 std ks mi) 0 = some (.inl ())) : m_ref16_Pick std o p mi l ks = some (0, 0, [], 1) := by
  by_cases h : mi < 1 ∨ 12622780800 < mi ∨ ks.length = 0
  · exact rPick_bad h
  · rw [m_ref16_Pick_eq]
    exact bB (v := false) (bF (dF (by omega)) (bF (dF (by omega)) (congrArg some (eF (by omega))))) (bF rfl (bB hL rfl))
end
theorem pl_GroupPicks (o p mi : Int) (l : List Sp) (ks : List Int) : m_law16_GroupPicks std o p mi l ks = some true := by
  rw [m_law16_GroupPicks_eq, awake16, p_law16_great]
  refine bB rfl (bF rfl ?_)
  by_cases hgr : 40 < l.length
  · exact bB (v := true) (bB rfl (bT (dT hgr) rfl)) rfl
  by_cases hgk : 40 < ks.length
  · exact bB (v := true) (bB rfl (bF (dF hgr) (congrArg some (dT (by omega))))) rfl
  refine bB (v := false) (bB rfl (bF (dF hgr) (congrArg some (dF (by omega))))) (bF rfl ?_)
  have hV := p_ref16_Valid o p l (by omega)
  rw [hV]
  cases hv : validB o p l with
  | false => exact bB (Pick_bad (.inl hv) (by omega)) (bB rfl (bT rfl (bB is_bad rfl)))
  | true =>
    have hd := Vd.of hv
    by_cases hm : mi < 1 ∨ 12622780800 < mi ∨ ks.length = 0
    · exact bB (Pick_bad (.inr hm) (by omega)) (bB rfl (bF rfl (bB (rPick_bad hm) (bB is_bad rfl))))
    · obtain ⟨m, rfl⟩ : ∃ m : Nat, mi = m := ⟨mi.toNat, by omega⟩
      rcases p_Pick_loops ks (m : Int) (by omega) with ⟨k, hk, hL, hL'⟩ | ⟨hB, hL, hL'⟩
      · exact bB (Pick_bad2 (by omega) hL) (bB rfl (bF rfl (bB (rPick_bad2 hL') (bB is_bad rfl))))
      · have h : PkOk o p l m ks := ⟨hd, by omega, by omega, by omega, by omega, by omega, hB⟩
        have e1 := p_group_Pick h hL
        have e2 := p_ref16_Pick h hL'
        by_cases hb : bP p l m ≤ 12622780800
        · rw [if_pos hb] at e1 e2
          exact bB e1 (bB rfl (bF rfl (bB e2 (bB (mkR_is (pk_PL h hb)) rfl))))
        · rw [if_neg hb] at e1 e2
          exact bB e1 (bB rfl (bF rfl (bB e2 (bB (is_err (by omega)) rfl))))
end Go.Proofs.Ytoklfjkanipjkaa
