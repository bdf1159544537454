/-
  GroupRestricts: the plain law.
-/
import Derived.Test.YtebkfbkgmbgobaaK1
import Derived.Test.YtebkfbkgmbgobaaKB
namespace Go.Proofs.Ytebkfbkgmbgobaa
open Go.RowKit

/-- how many granules are asked -/
def rsN (cp P : Int) (cl : List Sp) : Nat := cl.length * (P.toNat / Nat.gcd cp.toNat P.toNat)
def rsB (co cp P : Int) (cl l : List Sp) (k : Nat) : Bool := Pe.bel P l (atT co cp cl k) - Pe.bel P l (atF co cp cl k) == atT co cp cl k - atF co cp cl k
def rsF (co cp P : Int) (cl l : List Sp) (k : Nat) : Option Sp := if rsB co cp P cl l k = true then some (atF co cp cl k, atT co cp cl k) else none
structure RsOk (co cp P : Int) (cl l : List Sp) : Prop where
  hc : Vd co cp cl
  hv : Pe.VP P l
  hM : comP cp P ≤ 12622780800
  n5 : rsN cp P cl ≤ 5000
section
variable {co cp P : Int} {cl l : List Sp}
theorem rs_sp (hc : Vd co cp cl) (hP : 1 ≤ P) {k : Nat} (hk : k < rsN cp P cl) : co ≤ atF co cp cl k ∧ atF co cp cl k < atT co cp cl k ∧ atT co cp cl k ≤ co + comP cp P ∧ atT co cp cl k - atF co cp cl k ≤ cp := by
  obtain ⟨g, g1, hg, g2, g3, e1, e2, q1, q2, c1, c2⟩ := comP_parts hc.p1 hP
  have h1 := at_mono' hc (show (0 : Int) ≤ (k : Int) by omega)
  rw [(at_zero hc).1] at h1
  have h2 := at_lt hc (k : Int)
  have h3 := at_mono' hc (show (k : Int) + 1 ≤ ((rsN cp P cl : Nat) : Int) by omega)
  have h4 := (at_add co cp hc.n0 0 ((P.toNat / Nat.gcd cp.toNat P.toNat : Nat) : Int)).1
  rw [(at_zero hc).1, Int.zero_add, ← Int.natCast_mul] at h4
  have h5 := at_len hc (k : Int)
  rw [hg] at h4
  rw [c1]
  unfold rsN at h3
  rw [hg] at h3
  omega
theorem RsOk.sp (h : RsOk co cp P cl l) {k : Nat} (hk : k < rsN cp P cl) : AtOk cp cl k ∧ -4398046511104 ≤ atF co cp cl k ∧ atF co cp cl k < atT co cp cl k ∧ atT co cp cl k ≤ 4398046511104 := by
  have h1 := rs_sp h.hc h.hv.p1 hk
  have o1 := h.hc.o1
  have o2 := h.hc.o2
  have p2 := h.hc.p2
  have hM := h.hM
  have h5 := h.n5
  exact ⟨AtOk.base h.hc (by omega) (by omega), by omega, by omega, by omega⟩
theorem p_Restrict_1 (h : RsOk co cp P cl l) {k : Nat} (hk : k < rsN cp P cl) : m_group_Restrict_1 std (k : Int) co cp P cl l = some (atF co cp cl k, atT co cp cl k, rsB co cp P cl l k) := by
  obtain ⟨hk, h1, h2, h3⟩ := h.sp hk
  rw [m_group_Restrict_1_eq]
  refine bB (p_group_at h.hc hk) (bB (Pe.p_periodic_Count h.hv ⟨h1, h3, h2⟩) ?_)
  exact bB (v := rsB co cp P cl l k) (bT rfl (gI (by omega) rfl)) rfl
theorem RsOk.PL (h : RsOk co cp P cl l) (h0 : 0 < (fo (rsN cp P cl) (rsF co cp P cl l)).length) : PL (comP cp P) (fo (rsN cp P cl) (rsF co cp P cl l)) := by
  have hN : 0 < rsN cp P cl := by have := fo_len (rsN cp P cl) (rsF co cp P cl l); omega
  obtain ⟨g, g1, hg, g2, g3, e1, e2, q1, q2, c1, c2⟩ := comP_parts h.hc.p1 h.hv.p1
  have hp1 : 1 ≤ comP cp P := by
    rw [c1]
    have := Int.mul_le_mul_of_nonneg_left (show (1 : Int) ≤ ((P.toNat / g : Nat) : Int) by omega) (show 0 ≤ cp by have := h.hc.p1; omega)
    have := h.hc.p1
    omega
  have z := (at_zero h.hc).1
  have o1 := h.hc.o1
  have o2 := h.hc.o2
  refine fo_PL (sF := fun k => atF co cp cl k) (sT := fun k => atT co cp cl k) h0 h.n5 hp1 h.hM (fun k x hk hx => ?_) (fun j k hjk hk => ?_) (fun k hk => ?_) ?_ ?_
  · unfold rsF at hx
    split at hx
    · injection hx with hx
      subst hx
      exact ⟨Int.le_refl _, (at_lt h.hc k).1, Int.le_refl _⟩
    · cases hx
  · have h1 := (at_lt h.hc j).2
    have h2 := at_mono' h.hc (show (j : Int) + 1 ≤ (k : Int) by omega)
    exact Int.le_trans h1 h2
  · have h1 := rs_sp h.hc h.hv.p1 hk
    simp only [Int.natCast_zero, z]
    omega
  · simp only [Int.natCast_zero, z]; omega
  · simp only [Int.natCast_zero, z]; omega
theorem p_collect_Restrict (h : RsOk co cp P cl l) : m_group_collect_2 std (comP cp P) ((rsN cp P cl : Nat) : Int) co cp P cl l =
    some (if (fo (rsN cp P cl) (rsF co cp P cl l)).length = 0 then (0, 0, [], 7) else mkR (comP cp P) (fo (rsN cp P cl) (rsF co cp P cl l))) := by
  have h5 := h.n5
  rw [m_group_collect_2_eq]
  refine bB (loop_to' (n := rsN cp P cl) (fun i => ((i : Int), fo i (rsF co cp P cl l))) (e := fo (rsN cp P cl) (rsF co cp P cl l)) (by omega) (fun i hi => ?_) ?_) ?_
  · have h1 := p_Restrict_1 h hi
    have hlen := fo_len i (rsF co cp P cl l)
    rw [m_group_collect_2_L1_eq]
    cases hf : rsB co cp P cl l i with
    | false =>
      rw [hf] at h1
      exact bT (dT (by omega)) (bB h1 (bB (v := fo (i + 1) (rsF co cp P cl l)) (bF rfl (congrArg some (by rw [fo_succ, rsF, hf]; simp))) (gI (by omega) rfl)))
    | true =>
      rw [hf] at h1
      exact bT (dT (by omega)) (bB h1 (bB (v := fo (i + 1) (rsF co cp P cl l)) (bT rfl (gR (by omega) (gR (by simp) (congrArg some (by rw [fo_succ, rsF, hf]; rfl))))) (gI (by omega) rfl)))
  · rw [m_group_collect_2_L1_eq]; exact bF (dF (by omega)) rfl
  · by_cases h0 : (fo (rsN cp P cl) (rsF co cp P cl l)).length = 0
    · rw [if_pos h0]; exact bT (eT (by omega)) rfl
    · rw [if_neg h0]; exact bF (eF (by omega)) (bB (p_group_made (h.PL (by omega))) rfl)
theorem p_ref_Restrict_L1 (h : RsOk co cp P cl l) {i : Nat} (hi : i < rsN cp P cl) (hn : ((cl.length : Nat) : Int) * Int.tdiv (comP cp P) cp = ((rsN cp P cl : Nat) : Int)) :
    m_ref16_Restrict_L1 std co cp cl (comP cp P) P l ((i : Int), fo i (rsF co cp P cl l)) = some (.inl (((i + 1 : Nat) : Int), fo (i + 1) (rsF co cp P cl l))) := by
  have h5 := h.n5
  obtain ⟨hk, h1, h2, h3⟩ := h.sp hi
  have hlen := fo_len i (rsF co cp P cl l)
  have hG := p_ref16_Granule h.hc hk
  have hC := Pe.p_covered h.hv h2 h1 h3
  rw [m_ref16_Restrict_L1_eq, hn]
  cases hf : rsB co cp P cl l i with
  | false =>
    have hf' : (Pe.bel P l (atT co cp cl i) - Pe.bel P l (atF co cp cl i) == atT co cp cl i - atF co cp cl i) = false := hf
    rw [hf'] at hC
    exact bT (dT (by omega)) (bB hG (bB hC (bB (v := fo (i + 1) (rsF co cp P cl l)) (bF rfl (congrArg some (by rw [fo_succ, rsF, hf]; simp))) (gI (by omega) rfl))))
  | true =>
    have hf' : (Pe.bel P l (atT co cp cl i) - Pe.bel P l (atF co cp cl i) == atT co cp cl i - atF co cp cl i) = true := hf
    rw [hf'] at hC
    exact bT (dT (by omega)) (bB hG (bB hC (bB (v := fo (i + 1) (rsF co cp P cl l)) (bT rfl (bB hG (gR (by omega) (gR (by simp) (congrArg some (by rw [fo_succ, rsF, hf]; rfl)))))) (gI (by omega) rfl))))
theorem Restrict_bad (h : validB co cp cl = false ∨ Pe.pvB P l = false) (h1 : cl.length ≤ 5000) : m_group_Restrict std co cp P cl l = some (0, 0, [], 1) := by
  rw [m_group_Restrict_eq]
  refine bB (v := true) (bB (p_granule_Valid co cp cl (by omega)) ?_) (bT rfl rfl)
  cases hv : validB co cp cl with
  | false => exact bT rfl rfl
  | true =>
    refine bF rfl (bB (Pe.p_periodic_Valid P l) ?_)
    rcases h with h | h
    · rw [hv] at h; cases h
    · rw [h]; rfl
theorem Restrict_both (hc : Vd co cp cl) (hv : Pe.VP P l) : ∃ a b x e, m_group_Restrict std co cp P cl l = some (a, b, x, e) ∧ m_ref16_Restrict std co cp P cl l = some (a, b, x, e) ∧
    ((∃ p l, PL p l ∧ (a, b, x, e) = mkR p l) ∨ (a = 0 ∧ b = 0 ∧ x = [] ∧ e ≠ 0)) := by
  have c5 := hc.n5
  have cp1 := hc.p1
  have cp2 := hc.p2
  have ip1 := hv.p1
  have ip2 := hv.p2
  have hV : (Option.bind (m_granule_Valid std co cp cl) fun b22 => bif (!b22) then (some true) else Option.bind (m_periodic_Valid std P l) fun b28 => (some (!b28))) = some false := by
    refine bB (p_granule_Valid co cp cl (by omega)) (bF (nF hc.back) (bB (Pe.p_periodic_Valid P l) (congrArg some (nF (Pe.pvB_t hv)))))
  have hu : ((P.toNat / Nat.gcd cp.toNat P.toNat : Nat) : Int) ≤ P := by have := Nat.div_le_self P.toNat (Nat.gcd cp.toNat P.toNat); omega
  have z1 := nn (P.toNat / Nat.gcd cp.toNat P.toNat)
  have hq := (com_quo cp1 ip1).2
  by_cases hM : comP cp P ≤ 12622780800
  · have hn : ((cl.length : Nat) : Int) * ((P.toNat / Nat.gcd cp.toNat P.toNat : Nat) : Int) = ((rsN cp P cl : Nat) : Int) := by unfold rsN; rw [Int.natCast_mul]
    have hnb := mul_5000 (q := ((P.toNat / Nat.gcd cp.toNat P.toNat : Nat) : Int)) c5 (A := 12622780800) (by omega) (by omega) (by omega)
    have hG := p_group_common cp1 cp2 ip1 ip2
    have hR := p_ref16_common cp1 cp2 ip1 ip2
    rw [if_pos hM] at hG hR
    by_cases hbig : 5000 < rsN cp P cl
    · refine ⟨0, 0, [], 5, ?_, ?_, .inr ⟨rfl, rfl, rfl, by omega⟩⟩
      · rw [m_group_Restrict_eq, hV, hG]
        simp only [Option.bind_some, hq, hn]
        exact bF rfl (bF rfl (gZ (by omega) (gI (by omega) (gI (by omega) (bT (dT (by omega)) rfl)))))
      · rw [m_ref16_Restrict_eq, hR]
        simp only [Option.bind_some, hq, hn]
        exact bF rfl (gZ (by omega) (gI (by omega) (gI (by omega) (bT (dT (by omega)) rfl))))
    · have hok : RsOk co cp P cl l := ⟨hc, hv, hM, by omega⟩
      obtain ⟨L, hL⟩ : ∃ L, fo (rsN cp P cl) (rsF co cp P cl l) = L := ⟨_, rfl⟩
      have hcol := p_collect_Restrict hok
      have hPL := hok.PL
      have hn2 : ((cl.length : Nat) : Int) * Int.tdiv (comP cp P) cp = ((rsN cp P cl : Nat) : Int) := by rw [hq, hn]
      have hloop := loop_to' (B := m_ref16_Restrict_L1 std co cp cl (comP cp P) P l) (n := rsN cp P cl) (fun i => ((i : Int), fo i (rsF co cp P cl l))) (e := fo (rsN cp P cl) (rsF co cp P cl l)) (by omega) (fun i hi => p_ref_Restrict_L1 hok hi hn2) (by
        rw [m_ref16_Restrict_L1_eq, hn2]
        exact bF (dF (by omega)) rfl)
      rw [hL] at hcol hPL hloop
      have hA : m_group_Restrict std co cp P cl l = some (if L.length = 0 then (0, 0, [], 7) else mkR (comP cp P) L) := by
        rw [m_group_Restrict_eq, hV, hG]
        simp only [Option.bind_some, hq, hn]
        exact bF rfl (bF rfl (gZ (by omega) (gI (by omega) (gI (by omega) (bF (dF (by omega)) (bB hcol rfl))))))
      have hB : m_ref16_Restrict std co cp P cl l = some (if L.length = 0 then (0, 0, [], 7) else mkR (comP cp P) L) := by
        rw [m_ref16_Restrict_eq, hR]
        simp only [Option.bind_some, hq, hn]
        refine bF rfl (gZ (by omega) (gI (by omega) (gI (by omega) (bF (dF (by omega)) (bB hloop ?_)))))
        by_cases h0 : L.length = 0
        · rw [if_pos h0]; exact bT (eT (by omega)) rfl
        · rw [if_neg h0]; exact bF (eF (by omega)) (bB (p_ref16_Make (hPL (by omega))) rfl)
      rw [hA, hB]
      by_cases h0 : L.length = 0
      · rw [if_pos h0]
        exact ⟨_, _, _, _, rfl, rfl, .inr ⟨rfl, rfl, rfl, by omega⟩⟩
      · rw [if_neg h0]
        exact ⟨_, _, _, _, rfl, rfl, .inl ⟨_, _, hPL (by omega), rfl⟩⟩
  · refine ⟨0, 0, [], 9, ?_, ?_, .inr ⟨rfl, rfl, rfl, by omega⟩⟩
    · rw [m_group_Restrict_eq, hV, p_group_common cp1 cp2 ip1 ip2, if_neg hM]
      exact bB rfl (bF rfl (bB rfl (bT rfl rfl)))
    · rw [m_ref16_Restrict_eq, p_ref16_common cp1 cp2 ip1 ip2, if_neg hM]
      exact bB rfl (bT rfl rfl)
end
theorem pl_GroupRestricts (co cp P : Int) (cl l : List Sp) : m_law16_GroupRestricts std co cp P cl l = some true := by
  rw [m_law16_GroupRestricts_eq]
  refine bB awake16 (bF rfl ?_)
  by_cases g1 : 40 < cl.length
  · exact bB (v := true) (bB (p_law16_great co cp cl) (bT (dT g1) rfl)) (bT rfl rfl)
  by_cases g2 : 40 < l.length
  · exact bB (v := true) (bB (p_law16_great co cp cl) (bF (dF g1) (congrArg some (dT (by omega))))) (bT rfl rfl)
  refine bB (v := false) (bB (p_law16_great co cp cl) (bF (dF g1) (congrArg some (dF (by omega))))) (bF rfl ?_)
  have hV1 := p_ref16_Valid co cp cl (by omega)
  have hV2 := Pe.p_ref16_Periodic P l (by omega)
  cases hv1 : validB co cp cl with
  | false =>
    rw [hv1] at hV1
    exact bB (Restrict_bad (.inl hv1) (by omega)) (bB (v := true) (bB hV1 (bT rfl rfl)) (bT rfl (bB is_bad rfl)))
  | true =>
  cases hv2 : Pe.pvB P l with
  | false =>
    rw [hv1] at hV1
    rw [hv2] at hV2
    exact bB (Restrict_bad (.inr hv2) (by omega)) (bB (v := true) (bB hV1 (bF rfl (bB hV2 rfl))) (bT rfl (bB is_bad rfl)))
  | true =>
  rw [hv1] at hV1
  rw [hv2] at hV2
  obtain ⟨a, p, x, e, h1, h2, h3⟩ := Restrict_both (Vd.of hv1) (Pe.pvB_iff.1 hv2)
  refine bB h1 (bB (v := false) (bB hV1 (bF rfl (bB hV2 rfl))) (bF rfl (bB h2 (bB (v := true) ?_ rfl))))
  rcases h3 with ⟨P', L, hP, he⟩ | ⟨rfl, rfl, rfl, he⟩
  · have := mkR_is hP
    rw [← he] at this
    exact this
  · exact is_err he
end Go.Proofs.Ytebkfbkgmbgobaa
