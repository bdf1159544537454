/-
  GroupSplits, the plain law.
-/
import Derived.Test.YtoklfjkanipjkaaPGrp2
import Derived.Test.YtoklfjkanipjkaaGAwake
namespace Go.Proofs.Ytoklfjkanipjkaa
open Go.RowKit

theorem at_len {o p : Int} {l : List Sp} (hv : Vd o p l) (k : Int) : 0 < atT o p l k - atF o p l k ∧ atT o p l k - atF o p l k ≤ p := by
  have h0 := hv.n0
  have hr := div_bd (a := k) (b := (l.length : Int)) (by omega)
  have hb := hv.bd (k := (k % (l.length : Int)).toNat) (by omega)
  unfold atF atT
  omega
theorem at_in (o p : Int) {l : List Sp} {k : Nat} (hk : k < l.length) : atF o p l k = fr l k + o ∧ atT o p l k = tt l k + o := by
  have e1 : (k : Int) % (l.length : Int) = k := Int.emod_eq_of_lt (by omega) (by omega)
  have e2 : (k : Int) / (l.length : Int) = 0 := Int.ediv_eq_zero_of_lt (by omega) (by omega)
  unfold atF atT
  rw [e1, e2]
  simp
theorem part_bd {d : Int} {m r : Nat} (hd : 0 ≤ d) (hm : 1 ≤ m) (hr : r < m) : 0 ≤ d / (m : Int) ∧ 0 ≤ (r : Int) * (d / (m : Int)) ∧ ((r : Int) + 1) * (d / (m : Int)) = (r : Int) * (d / (m : Int)) + d / (m : Int) ∧ (r : Int) * (d / (m : Int)) + d / (m : Int) ≤ d := by
  have h1 : 0 ≤ d / (m : Int) := Int.ediv_nonneg hd (by omega)
  have e : ((r : Int) + 1) * (d / (m : Int)) = (r : Int) * (d / (m : Int)) + d / (m : Int) := by rw [Int.add_mul, Int.one_mul]
  refine ⟨h1, Int.mul_nonneg (by omega) h1, e, ?_⟩
  rw [← e]
  have h2 : ((r : Int) + 1) * (d / (m : Int)) ≤ (m : Int) * (d / (m : Int)) := Int.mul_le_mul_of_nonneg_right (by omega) h1
  have h3 : (m : Int) * (d / (m : Int)) ≤ d := Int.mul_ediv_self_le (by omega)
  omega
theorem dm {m k r : Nat} (hr : r < m) : (k * m + r) / m = k ∧ (k * m + r) % m = r := by
  refine ⟨?_, ?_⟩
  · rw [Nat.mul_comm, Nat.mul_add_div (by omega), Nat.div_eq_of_lt hr, Nat.add_zero]
  · rw [Nat.mul_comm, Nat.mul_add_mod, Nat.mod_eq_of_lt hr]
theorem dm_ex {m n i : Nat} (hi : i < n * m) : ∃ k r, i = k * m + r ∧ r < m ∧ k < n := by
  have hm : 0 < m := by rcases Nat.eq_zero_or_pos m with h | h
                        · subst h; simp at hi
                        · exact h
  exact ⟨i / m, i % m, by rw [Nat.mul_comm]; exact (Nat.div_add_mod i m).symm, Nat.mod_lt _ hm, (Nat.div_lt_iff_lt_mul hm).2 hi⟩

def splK (o p : Int) (l : List Sp) (m k r : Nat) : Sp := (atF o p l k + (r : Int) * ((atT o p l k - atF o p l k) / (m : Int)), atF o p l k + ((r : Int) + 1) * ((atT o p l k - atF o p l k) / (m : Int)))
def splF (o p : Int) (l : List Sp) (m i : Nat) : Sp := splK o p l m (i / m) (i % m)
def splL (o p : Int) (l : List Sp) (m : Nat) : List Sp := gl (l.length * m) (splF o p l m)
theorem splF_at (o p : Int) (l : List Sp) {m r : Nat} (k : Nat) (hr : r < m) : splF o p l m (k * m + r) = splK o p l m k r := by rw [splF, (dm hr).1, (dm hr).2]
def splB (l : List Sp) (m k : Nat) : Bool := (tt l k - fr l k) % (m : Int) == 0

section
variable {o p : Int} {l : List Sp} {m : Nat}
theorem p_Split_2 (hv : Vd o p l) (hm : 1 ≤ m) (hm5 : m ≤ 5000) {k r : Nat} (hk : k < l.length) (hr : r < m) :
    m_group_Split_2 std ((k * m + r : Nat) : Int) o p (m : Int) l = some ((splK o p l m k r).1, (splK o p l m k r).2, true) := by
  have h5 := hv.n5
  have hp2 := hv.p2
  have ok := AtOk.base hv (a := k) (by omega) (by omega)
  have hb := at_bd hv ok
  have hl := at_len hv k
  obtain ⟨a1, a2, a3, a4⟩ := part_bd (d := atT o p l k - atF o p l k) (by omega) hm hr
  have hd : Int.tdiv (atT o p l k - atF o p l k) (m : Int) = (atT o p l k - atF o p l k) / (m : Int) := Int.tdiv_eq_ediv_of_nonneg (by omega)
  have hs : (atT o p l k - atF o p l k) / (m : Int) ≤ atT o p l k - atF o p l k := Int.ediv_le_self _ (by omega)
  rw [m_group_Split_2_eq]
  simp only [nat_tdiv, nat_tmod, (dm hr).1, (dm hr).2]
  refine gZ (by omega) (gI (by omega) ?_)
  rw [p_group_at hv ok]
  simp only [Option.bind_some, hd]
  refine gI (by omega) (gI (by omega) (gI (by omega) (gI (by omega) (gI (by omega) (gI (by omega) (gI (by omega) rfl))))))
theorem spl_PL (hv : Vd o p l) (hm : 1 ≤ m) (hn : l.length * m ≤ 5000) (hB : ∀ k, k < l.length → splB l m k = true) : PL p (splL o p l m) := by
  have h0 := hv.n0
  have hp1 := hv.p1
  have hp2 := hv.p2
  have ho1 := hv.o1
  have ho2 := hv.o2
  have hlen : (splL o p l m).length = l.length * m := gl_len _ _
  have hpos : 0 < l.length * m := Nat.mul_pos h0 hm
  have part (k : Nat) (hk : k < l.length) : ∃ P : Int, (atT o p l k - atF o p l k) / (m : Int) = P ∧ 0 < P ∧ atF o p l k + (m : Int) * P = atT o p l k := by
    have hb := hB k hk
    simp only [splB, beq_iff_eq] at hb
    have hl := at_len hv k
    have e : atT o p l k - atF o p l k = tt l k - fr l k := by have := at_in o p hk; omega
    rw [← e] at hb
    have e2 := Int.emod_def (atT o p l k - atF o p l k) (m : Int)
    refine ⟨_, rfl, ?_, by omega⟩
    rcases Int.lt_or_le 0 ((atT o p l k - atF o p l k) / (m : Int)) with h | h
    · exact h
    · have h2 : (m : Int) * ((atT o p l k - atF o p l k) / (m : Int)) ≤ (m : Int) * 0 := Int.mul_le_mul_of_nonneg_left h (by omega)
      omega
  have key (k r : Nat) (hk : k < l.length) (hr : r < m) : fr (splL o p l m) (k * m + r) = (splK o p l m k r).1 ∧ tt (splL o p l m) (k * m + r) = (splK o p l m k r).2 := by
    have hi : k * m + r < l.length * m := by
      have : (k + 1) * m ≤ l.length * m := Nat.mul_le_mul_right m hk
      rw [Nat.add_mul, Nat.one_mul] at this
      omega
    rw [splL, fr_gl hi, tt_gl hi, splF_at o p l k hr]
    exact ⟨rfl, rfl⟩
  have k0 := key 0 0 h0 (by omega)
  simp only [Nat.zero_mul, Nat.add_zero] at k0
  have a0 := at_in o p h0
  have f0 := hv.f0
  have first : fr (splL o p l m) 0 = o := by
    rw [k0.1]
    simp only [splK]
    have : ((0 : Nat) : Int) * ((atT o p l (0 : Nat) - atF o p l (0 : Nat)) / (m : Int)) = 0 := by simp
    rw [this]
    omega
  refine ⟨by omega, by omega, hp1, hp2, ?_, ?_, ?_, by omega, by omega⟩
  · intro i hi
    rw [hlen] at hi
    obtain ⟨k, r, rfl, hr, hk⟩ := dm_ex hi
    obtain ⟨P, e1, e2, e3⟩ := part k hk
    rw [(key k r hk hr).1, (key k r hk hr).2]
    simp only [splK, e1, Int.add_mul, Int.one_mul]
    omega
  · intro i hi
    rw [hlen] at hi
    obtain ⟨k, r, rfl, hr, hk⟩ := dm_ex (show i < l.length * m by omega)
    obtain ⟨P, e1, e2, e3⟩ := part k hk
    rw [(key k r hk hr).2]
    rcases Nat.lt_or_ge (r + 1) m with h | h
    · rw [Nat.add_assoc, (key k (r + 1) hk h).1]
      simp only [splK, e1]
      rw [show ((r + 1 : Nat) : Int) = (r : Int) + 1 by omega]
      exact Int.le_refl _
    · have hr1 : r + 1 = m := by omega
      have e4 : k * m + r + 1 = (k + 1) * m + 0 := by rw [Nat.add_mul, Nat.one_mul]; omega
      have hk1 : k + 1 < l.length := by
        rw [e4, Nat.add_zero] at hi
        exact Nat.lt_of_mul_lt_mul_right hi
      rw [e4, (key (k + 1) 0 hk1 (by omega)).1]
      have hl := at_lt hv k
      have e5 : ((r : Int) + 1) * P = (m : Int) * P := by rw [show (r : Int) + 1 = (m : Int) by omega]
      simp only [splK, e1, e5]
      have e6 : ((0 : Nat) : Int) * ((atT o p l ((k + 1 : Nat) : Int) - atF o p l ((k + 1 : Nat) : Int)) / (m : Int)) = 0 := by simp
      rw [e6, show ((k + 1 : Nat) : Int) = (k : Int) + 1 by omega]
      omega
  · rw [hlen, first]
    obtain ⟨P, e1, e2, e3⟩ := part (l.length - 1) (by omega)
    have e4 : l.length * m - 1 = (l.length - 1) * m + (m - 1) := by
      rw [Nat.sub_mul, Nat.one_mul]
      have : m ≤ l.length * m := Nat.le_mul_of_pos_left m h0
      omega
    rw [e4, (key (l.length - 1) (m - 1) (by omega) (by omega)).2]
    simp only [splK, e1]
    rw [show (((m - 1 : Nat) : Int) + 1) = (m : Int) by omega, e3]
    have := (at_in o p (l := l) (k := l.length - 1) (by omega)).2
    have := hv.tl
    omega
theorem p_collect_Splits (hv : Vd o p l) (hm : 1 ≤ m) (hn : l.length * m ≤ 5000) (hB : ∀ k, k < l.length → splB l m k = true) :
    m_group_collect_2 std p ((l.length * m : Nat) : Int) o p (m : Int) l = some (mkR p (splL o p l m)) := by
  have h0 := hv.n0
  have hm5 : m ≤ 5000 := Nat.le_trans (Nat.le_mul_of_pos_left m h0) hn
  have hP := spl_PL hv hm hn hB
  have hP0 := hP.n0
  rw [m_group_collect_2_eq]
  refine bB (loop_gl (n := l.length * m) (splF o p l m) (by omega) (fun i hi => ?_) (fun l' => ?_)) ?_
  · obtain ⟨k, r, rfl, hr, hk⟩ := dm_ex hi
    rw [m_group_collect_2_L1_eq, splF_at o p l k hr]
    refine bT (dT (by omega)) (bB (p_Split_2 hv hm hm5 hk hr) (bB (bT rfl (gR (by rw [gl_len]; omega) (gR (by simp) rfl))) (gI (by omega) rfl)))
  · rw [m_group_collect_2_L1_eq]; exact bF (dF (by omega)) rfl
  · exact bF (eF (by have := hP0; unfold splL at this; omega)) (bB (p_group_made hP) rfl)
/-- a granule that does not come out in m parts -/
theorem p_Split_1 (hv : Vd o p l) (hm : 1 ≤ m) {k : Nat} (hk : k < l.length) : m_group_Split_1 std (fr l k) (tt l k) (m : Int) = some (!splB l m k) := by
  have hb := hv.bd hk
  have hp2 := hv.p2
  rw [m_group_Split_1_eq, Int.tmod_eq_emod_of_nonneg (by omega)]
  exact gI (by omega) (gZ (by omega) rfl)
theorem p_Index_3 (hv : Vd o p l) (hm : 1 ≤ m) {k : Nat} (hk : k < l.length) (h : splB l m k = true) : m_slices_IndexFunc_3_L1 std (m : Int) l (k : Int) = some (.inl ((k + 1 : Nat) : Int)) := by
  have h5 := hv.n5
  rw [m_slices_IndexFunc_3_L1_eq]
  simp only [Int.toNat_natCast, fr_def, tt_def, p_Split_1 hv hm hk, h]
  exact bT (dT (by omega)) (gX (by omega) (gK (by omega) (bB rfl (bF rfl (gI (by omega) rfl)))))
theorem p_Contains_ok (hv : Vd o p l) (hm : 1 ≤ m) (hB : ∀ k, k < l.length → splB l m k = true) : m_slices_ContainsFunc_3 std l (m : Int) = some false := by
  have h5 := hv.n5
  rw [m_slices_ContainsFunc_3_eq, m_slices_IndexFunc_3_eq]
  refine bB (v := -1) (bB (v := .inr ()) (loop_to' (n := l.length) (fun i => (i : Int)) (by omega) (fun i hi => p_Index_3 hv hm hi (hB i hi)) ?_) rfl) rfl
  rw [m_slices_IndexFunc_3_L1_eq]; exact bF (dF (by omega)) rfl
theorem p_Contains_no (hv : Vd o p l) (hm : 1 ≤ m) {k : Nat} (hk : k < l.length) (h : splB l m k = false) (hB : ∀ i, i < k → splB l m i = true) : m_slices_ContainsFunc_3 std l (m : Int) = some true := by
  have h5 := hv.n5
  rw [m_slices_ContainsFunc_3_eq, m_slices_IndexFunc_3_eq]
  refine bB (v := (k : Int)) (bB (v := .inl (k : Int)) (loop_to' (n := k) (fun i => (i : Int)) (by omega) (fun i hi => p_Index_3 hv hm (by omega) (hB i hi)) ?_) rfl) (congrArg some (dT (by omega)))
  rw [m_slices_IndexFunc_3_L1_eq]
  simp only [Int.toNat_natCast, fr_def, tt_def, p_Split_1 hv hm hk, h]
  exact bT (dT (by omega)) (gX (by omega) (gK (by omega) (bB rfl (bT rfl rfl))))
theorem p_group_Split (hv : Vd o p l) (hm : 1 ≤ m) (hm5 : m ≤ 5000) {c : Bool} (hc : m_slices_ContainsFunc_3 std l (m : Int) = some c) (hB : c = false → ∀ k, k < l.length → splB l m k = true) :
    m_group_Split std o p (m : Int) l = some (if l.length * m ≤ 5000 then (if c then (0, 0, [], 6) else mkR p (splL o p l m)) else (0, 0, [], 5)) := by
  have h5 := hv.n5
  have hmul : l.length * m ≤ 25000000 := Nat.mul_le_mul h5 hm5
  have e : (l.length : Int) * (m : Int) = ((l.length * m : Nat) : Int) := (Int.natCast_mul _ _).symm
  rw [m_group_Split_eq, p_granule_Valid o p l (by omega), hv.back, hc]
  simp only [e]
  refine bB (v := false) (bB rfl (bF rfl (bF (dF (by omega)) (congrArg some (dF (by omega)))))) ?_
  by_cases hn : l.length * m ≤ 5000
  · rw [if_pos hn]
    cases c with
    | true => exact bB (v := .inl 6) (bF rfl (gI (by omega) (bB (v := .inl 6) (bF (dF (by omega)) (bB rfl (bT rfl rfl))) rfl))) rfl
    | false => exact bB (v := .inr ()) (bF rfl (gI (by omega) (bB (v := .inr ()) (bF (dF (by omega)) (bB rfl (bF rfl rfl))) rfl))) (bB (p_collect_Splits hv hm hn (hB rfl)) rfl)
  · rw [if_neg hn]
    exact bB (v := .inl 5) (bF rfl (gI (by omega) (bB (v := .inl 5) (bT (dT (by omega)) rfl) rfl))) rfl
theorem p_ref16_Split_in (hv : Vd o p l) (hm : 1 ≤ m) (hn : l.length * m ≤ 5000) {k : Nat} (hk : k < l.length) (h : splB l m k = true) :
    m_ref16_Split_L2 std o p l (m : Int) ((k : Int), gl (k * m) (splF o p l m)) = some (.inl (((k + 1 : Nat) : Int), gl ((k + 1) * m) (splF o p l m))) := by
  have h5 := hv.n5
  have hp2 := hv.p2
  have hm5 : m ≤ 5000 := Nat.le_trans (Nat.le_mul_of_pos_left m hv.n0) hn
  have ok := AtOk.base hv (a := k) (by omega) (by omega)
  have hb := at_bd hv ok
  have hl := at_len hv k
  have hd : Int.tdiv (atT o p l k - atF o p l k) (m : Int) = (atT o p l k - atF o p l k) / (m : Int) := Int.tdiv_eq_ediv_of_nonneg (by omega)
  have hs : (atT o p l k - atF o p l k) / (m : Int) ≤ atT o p l k - atF o p l k := Int.ediv_le_self _ (by omega)
  have hs0 : 0 ≤ (atT o p l k - atF o p l k) / (m : Int) := Int.ediv_nonneg (by omega) (by omega)
  have e2 := Int.emod_def (atT o p l k - atF o p l k) (m : Int)
  simp only [splB, beq_iff_eq] at h
  rw [show tt l k - fr l k = atT o p l k - atF o p l k by have := at_in o p hk; omega] at h
  have hcm : (atT o p l k - atF o p l k) / (m : Int) * (m : Int) = atT o p l k - atF o p l k := by rw [Int.mul_comm]; omega
  have hkm : k * m + m ≤ l.length * m := by
    have : (k + 1) * m ≤ l.length * m := Nat.mul_le_mul_right m hk
    rwa [Nat.add_mul, Nat.one_mul] at this
  rw [m_ref16_Split_L2_eq, p_ref16_Granule hv ok]
  simp only [Option.bind_some, hd, hcm]
  refine bT (dT (by omega)) (gI (by omega) (gZ (by omega) (gI (by omega) (gI (by omega) (bF (nF (eT rfl)) (bB (v := gl ((k + 1) * m) (splF o p l m)) ?_ (gI (by omega) rfl)))))))
  have hloop := loop_up (B := m_ref16_Split_L1 std (m : Int) (atF o p l k) (atT o p l k)) (n := m) (fun i => gl (k * m + i) (splF o p l m)) (e := gl ((k + 1) * m) (splF o p l m)) (by omega) (fun i hi => ?_) ?_
  · exact hloop
  · obtain ⟨a1, a2, a3, a4⟩ := part_bd (d := atT o p l k - atF o p l k) (by omega) hm hi
    rw [m_ref16_Split_L1_eq]
    simp only [hd, Int.mul_comm ((atT o p l k - atF o p l k) / (m : Int))]
    refine bT (dT (by omega)) (gI (by omega) (gI (by omega) (gI (by omega) (gI (by omega) (gI (by omega) (gR (by rw [gl_len]; omega) (gR (by simp) ?_)))))))
    rw [← Nat.add_assoc, gl_succ, splF_at o p l k hi]
    rfl
  · rw [m_ref16_Split_L1_eq, Nat.add_mul, Nat.one_mul]; exact bF (dF (by omega)) rfl
theorem p_ref16_Split_no (hv : Vd o p l) (hm : 1 ≤ m) (hn : l.length * m ≤ 5000) {k : Nat} (hk : k < l.length) (h : splB l m k = false) (l' : List Sp) :
    m_ref16_Split_L2 std o p l (m : Int) ((k : Int), l') = some (.inr (.inl ())) := by
  have h5 := hv.n5
  have hp2 := hv.p2
  have hm5 : m ≤ 5000 := Nat.le_trans (Nat.le_mul_of_pos_left m hv.n0) hn
  have ok := AtOk.base hv (a := k) (by omega) (by omega)
  have hb := at_bd hv ok
  have hl := at_len hv k
  have hd : Int.tdiv (atT o p l k - atF o p l k) (m : Int) = (atT o p l k - atF o p l k) / (m : Int) := Int.tdiv_eq_ediv_of_nonneg (by omega)
  have hs : (atT o p l k - atF o p l k) / (m : Int) ≤ atT o p l k - atF o p l k := Int.ediv_le_self _ (by omega)
  have hs0 : 0 ≤ (atT o p l k - atF o p l k) / (m : Int) := Int.ediv_nonneg (by omega) (by omega)
  have e2 := Int.emod_def (atT o p l k - atF o p l k) (m : Int)
  have e3 := Int.emod_nonneg (atT o p l k - atF o p l k) (show (m : Int) ≠ 0 by omega)
  have h' : ¬ (tt l k - fr l k) % (m : Int) = 0 := by simpa [splB] using h
  rw [show tt l k - fr l k = atT o p l k - atF o p l k by have := at_in o p hk; omega] at h'
  have hcm : (m : Int) * ((atT o p l k - atF o p l k) / (m : Int)) ≠ atT o p l k - atF o p l k := by omega
  have hc0 : 0 ≤ (m : Int) * ((atT o p l k - atF o p l k) / (m : Int)) := Int.mul_nonneg (by omega) hs0
  rw [m_ref16_Split_L2_eq, p_ref16_Granule hv ok]
  simp only [Option.bind_some, hd, Int.mul_comm _ (m : Int)]
  exact bT (dT (by omega)) (gI (by omega) (gZ (by omega) (gI (by omega) (gI (by omega) (bT (nT (eF hcm)) rfl)))))
theorem p_ref16_Split_ok (hv : Vd o p l) (hm : 1 ≤ m) (hn : l.length * m ≤ 5000) (hB : ∀ k, k < l.length → splB l m k = true) : m_ref16_Split std o p (m : Int) l = some (mkR p (splL o p l m)) := by
  have h5 := hv.n5
  have hm5 : m ≤ 5000 := Nat.le_trans (Nat.le_mul_of_pos_left m hv.n0) hn
  have e : (l.length : Int) * (m : Int) = ((l.length * m : Nat) : Int) := (Int.natCast_mul _ _).symm
  rw [m_ref16_Split_eq]
  simp only [e]
  refine bB (v := false) (bF (dF (by omega)) (congrArg some (dF (by omega)))) (bF rfl (gI (by omega) (bF (dF (by omega)) ?_)))
  have hloop := loop_to' (B := m_ref16_Split_L2 std o p l (m : Int)) (n := l.length) (fun k => ((k : Int), gl (k * m) (splF o p l m))) (e := .inr (splL o p l m)) (by omega) (fun k hk => p_ref16_Split_in hv hm hn hk (hB k hk)) (by rw [m_ref16_Split_L2_eq]; exact bF (dF (by omega)) rfl)
  simp only [Nat.zero_mul] at hloop
  exact bB (show loop _ (0, []) = _ from hloop) (bB (p_ref16_Make (spl_PL hv hm hn hB)) rfl)
theorem p_ref16_Split_bad (hv : Vd o p l) (hm : 1 ≤ m) (hn : l.length * m ≤ 5000) {k : Nat} (hk : k < l.length) (h : splB l m k = false) (hB : ∀ i, i < k → splB l m i = true) : m_ref16_Split std o p (m : Int) l = some (0, 0, [], 6) := by
  have h5 := hv.n5
  have hm5 : m ≤ 5000 := Nat.le_trans (Nat.le_mul_of_pos_left m hv.n0) hn
  have e : (l.length : Int) * (m : Int) = ((l.length * m : Nat) : Int) := (Int.natCast_mul _ _).symm
  rw [m_ref16_Split_eq]
  simp only [e]
  refine bB (v := false) (bF (dF (by omega)) (congrArg some (dF (by omega)))) (bF rfl (gI (by omega) (bF (dF (by omega)) ?_)))
  have hloop := loop_to' (B := m_ref16_Split_L2 std o p l (m : Int)) (n := k) (fun k => ((k : Int), gl (k * m) (splF o p l m))) (e := .inl ()) (by omega) (fun i hi => p_ref16_Split_in hv hm hn (by omega) (hB i hi)) (p_ref16_Split_no hv hm hn hk h _)
  simp only [Nat.zero_mul] at hloop
  exact bB (show loop _ (0, []) = _ from hloop) rfl
theorem p_ref16_Split_full (hv : Vd o p l) (hm : 1 ≤ m) (hm5 : m ≤ 5000) (hn : ¬ l.length * m ≤ 5000) : m_ref16_Split std o p (m : Int) l = some (0, 0, [], 5) := by
  have h5 := hv.n5
  have hmul : l.length * m ≤ 25000000 := Nat.mul_le_mul h5 hm5
  have e : (l.length : Int) * (m : Int) = ((l.length * m : Nat) : Int) := (Int.natCast_mul _ _).symm
  rw [m_ref16_Split_eq]
  simp only [e]
  exact bB (v := false) (bF (dF (by omega)) (congrArg some (dF (by omega)))) (bF rfl (gI (by omega) (bT (dT (by omega)) rfl)))
theorem Split_bad {mi : Int} (h : validB o p l = false ∨ mi < 1 ∨ 5000 < mi) (hl : l.length ≤ 1099511627776) : m_group_Split std o p mi l = some (0, 0, [], 1) := by
  rw [m_group_Split_eq, p_granule_Valid o p l hl]
  refine bB (v := true) (bB rfl ?_) (bB (v := .inl 1) rfl rfl)
  cases hv : validB o p l with
  | false => rfl
  | true =>
    refine bF rfl ?_
    by_cases h1 : mi < 1
    · exact bT (dT h1) rfl
    · refine bF (dF h1) (congrArg some (dT ?_))
      rcases h with h | h | h
      · rw [hv] at h; cases h
      · exact absurd h h1
      · exact h
theorem rSplit_bad {mi : Int} (h : mi < 1 ∨ 5000 < mi) : m_ref16_Split std o p mi l = some (0, 0, [], 1) := by
  rw [m_ref16_Split_eq]
  refine bB (v := true) ?_ rfl
  by_cases h1 : mi < 1
  · exact bT (dT h1) rfl
  · exact bF (dF h1) (congrArg some (dT (by omega)))
end
theorem pl_GroupSplits (o p mi : Int) (l : List Sp) : m_law16_GroupSplits std o p mi l = some true := by
  rw [m_law16_GroupSplits_eq, awake16, p_law16_great]
  refine bB rfl (bF rfl (bB rfl ?_))
  by_cases hgr : 40 < l.length
  · exact bT (dT hgr) rfl
  refine bF (dF hgr) ?_
  have hV := p_ref16_Valid o p l (by omega)
  rw [hV]
  cases hv : validB o p l with
  | false => exact bB (Split_bad (.inl hv) (by omega)) (bB rfl (bT rfl (bB is_bad rfl)))
  | true =>
    have hd := Vd.of hv
    by_cases hm : mi < 1 ∨ 5000 < mi
    · exact bB (Split_bad (.inr hm) (by omega)) (bB rfl (bF rfl (bB (rSplit_bad hm) (bB is_bad rfl))))
    · obtain ⟨m, rfl⟩ : ∃ m : Nat, mi = m := ⟨mi.toNat, by omega⟩
      have hm1 : 1 ≤ m := by omega
      have hm5 : m ≤ 5000 := by omega
      rcases first_or (splB l m) l.length with hB | ⟨k, hk, hk2, hB⟩
      · have e1 := p_group_Split hd hm1 hm5 (p_Contains_ok hd hm1 hB) (fun _ => hB)
        by_cases hn : l.length * m ≤ 5000
        · rw [if_pos hn] at e1
          exact bB e1 (bB rfl (bF rfl (bB (p_ref16_Split_ok hd hm1 hn hB) (bB (mkR_is (spl_PL hd hm1 hn hB)) rfl))))
        · rw [if_neg hn] at e1
          exact bB e1 (bB rfl (bF rfl (bB (p_ref16_Split_full hd hm1 hm5 hn) (bB (is_err (by omega)) rfl))))
      · have e1 := p_group_Split hd hm1 hm5 (p_Contains_no hd hm1 hk hk2 hB) (fun h => by cases h)
        by_cases hn : l.length * m ≤ 5000
        · rw [if_pos hn] at e1
          exact bB e1 (bB rfl (bF rfl (bB (p_ref16_Split_bad hd hm1 hn hk hk2 hB) (bB (is_err (by omega)) rfl))))
        · rw [if_neg hn] at e1
          exact bB e1 (bB rfl (bF rfl (bB (p_ref16_Split_full hd hm1 hm5 hn) (bB (is_err (by omega)) rfl))))
end Go.Proofs.Ytoklfjkanipjkaa
