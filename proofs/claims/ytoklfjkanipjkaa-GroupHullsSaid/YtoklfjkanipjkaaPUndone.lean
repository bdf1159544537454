/-
  GroupUndone, the plain law.
-/
import Derived.Test.YtoklfjkanipjkaaPMade
namespace Go.Proofs.Ytoklfjkanipjkaa
open Go.RowKit

/-- the indices of all granules -/
def upL (n : Nat) : List Int := (List.range n).map fun (i : Nat) => (i : Int)
theorem upL_len (n : Nat) : (upL n).length = n := by simp [upL]
theorem kk_up {n i : Nat} (h : i < n) : kk (upL n) i = i := by simp [kk, upL, h]
theorem upL_succ (n : Nat) : upL (n + 1) = upL n ++ [(n : Int)] := by simp [upL, List.range_succ]
theorem p_Undone_L1 {m : Nat} (hm : m ≤ 50) : loop (m_law16_GroupUndone_L1 std (m : Int)) (0, []) = some (upL m) := by
  refine loop_up (n := m) (fun i => upL i) (by omega) (fun i hi => ?_) ?_
  · rw [m_law16_GroupUndone_L1_eq, upL_succ]
    exact bT (dT (by omega)) (gR (by rw [upL_len]; omega) (gR (by simp) (gI (by omega) rfl)))
  · rw [m_law16_GroupUndone_L1_eq]; exact bF (dF (by omega)) rfl

section
variable {o p : Int} {l : List Sp} {m : Nat}
theorem up_ok (hv : Vd o p l) (hl : l.length ≤ 40) (hm : 1 ≤ m) (hm5 : m ≤ 50) : PkOk o p l m (upL m) :=
  ⟨hv, hl, by rw [upL_len]; exact hm5, by rw [upL_len]; omega, hm, by omega, fun k hk => by
    rw [upL_len] at hk
    refine pkB_iff.2 ?_
    rw [kk_up hk]
    refine ⟨by omega, by omega, ?_⟩
    rcases Nat.eq_zero_or_pos k with h | h
    · exact .inl h
    · rw [kk_up (show k - 1 < m by omega)]; omega⟩
/-- groups of one granule -/
theorem groups_one (hv : Vd o p l) : m_group_Groups std o p 0 1 l = some (o, p, l, 0) := by
  have h := p_group_Groups (first := 0) (m := 1) hv (by omega) (by omega) (by omega) (by omega)
  have hb : bP p l 1 = p := by unfold bP; simp
  have hp2 := hv.p2
  rw [if_pos (by omega)] at h
  have hP := grp_PL (first := 0) (m := 1) hv (by omega) (by omega) (by omega) (by omega)
  rw [made_same hv hP fun k => ?_] at h
  · exact h
  · have := grp_at hv 0 1 k
    have e1 : (0 : Int) + k * ((1 : Nat) : Int) = k := by omega
    have e2 : (0 : Int) + (k + 1) * ((1 : Nat) : Int) - 1 = k := by omega
    rw [e1, e2] at this
    exact this
/-- all granules picked -/
theorem pick_all (h : PkOk o p l m (upL m)) (hb : bP p l m ≤ 12622780800) : mkR (bP p l m) (pkL o p l m (upL m)) = (o, p, l, 0) := by
  refine made_same h.hv (pk_PL h hb) fun k => ?_
  obtain ⟨q, r, hr, rfl⟩ := int_parts k (show 0 < m by have := h.hm; omega)
  have := pk_at h q (r := r) (by rw [upL_len]; exact hr)
  rw [upL_len, kk_up hr, Int.mul_comm q] at this
  exact this
/-- groups of what was split -/
theorem split_groups (hv : Vd o p l) (hm : 1 ≤ m) (hn : l.length * m ≤ 5000) (hB : ∀ k, k < l.length → splB l m k = true) :
    ∃ P L, mkR p (splL o p l m) = (o, P, L, 0) ∧ m_group_Groups std o P 0 (m : Int) L = some (o, p, l, 0) := by
  have h0 := hv.n0
  have hm5 : m ≤ 5000 := Nat.le_trans (Nat.le_mul_of_pos_left m h0) hn
  have hP := spl_PL hv hm hn hB
  have hlen : (splL o p l m).length = l.length * m := gl_len _ _
  have hz : fr (splL o p l m) 0 = o := by
    have e1 := (at_mk 0 p 0 hP.n0).2.2.1
    have e2 := (spl_at (m := m) hv 0 (r := 0) (by omega)).1
    have e3 := (at_zero hv).1
    simp at e1 e2
    omega
  have hh : halfB (fr (splL o p l m) 0) = true := by rw [hz, halfB_iff]; exact ⟨hv.o1, hv.o2⟩
  have hx := mkR_ok hP hh
  have hat := made_at hP
  rw [hz] at hx hat
  refine ⟨_, _, by unfold mkR; rw [if_pos hh, hz], ?_⟩
  obtain ⟨c, e1, m1, m2, q1, q2, e2, e3⟩ := of_quo hP
  have hr := leastN_spec (p := p) (l := shiftL (splL o p l m) (fr (splL o p l m) 0)) (by rw [shiftL_len]; exact hP.n0)
  rw [e1] at hr
  obtain ⟨r1, r2, _⟩ := repM_parts hr.2.2.1
  rw [shiftL_len] at r1 r2
  have hcl : (ofL p (splL o p l m)).length = c := by rw [e3, List.length_take, shiftL_len]; omega
  -- the period of the groups is not longer than that of the parts
  have hQ : (splL o p l m).length / c * c = l.length * m := by rw [← hlen]; exact Nat.div_mul_cancel (Nat.dvd_of_mod_eq_zero r1)
  have hdvd : m / Nat.gcd c m ∣ (splL o p l m).length / c := by
    have hg : 0 < Nat.gcd c m := Nat.gcd_pos_of_pos_left _ m1
    have hco : Nat.Coprime (m / Nat.gcd c m) (c / Nat.gcd c m) := (Nat.coprime_div_gcd_div_gcd hg).symm
    refine hco.dvd_of_dvd_mul_right ?_
    refine ⟨l.length, ?_⟩
    refine Nat.eq_of_mul_eq_mul_right hg ?_
    rw [Nat.mul_assoc, Nat.div_mul_cancel (Nat.gcd_dvd_left c m), hQ, Nat.mul_comm (m / Nat.gcd c m), Nat.mul_assoc, Nat.div_mul_cancel (Nat.gcd_dvd_right c m)]
  have hle : m / Nat.gcd c m ≤ (splL o p l m).length / c := Nat.le_of_dvd (by omega) hdvd
  have hb : bP (ofP p (splL o p l m)) (ofL p (splL o p l m)) m ≤ 12622780800 := by
    unfold bP
    rw [hcl, e2]
    have hd := div_small hv.p1 ((splL o p l m).length / c)
    have s1 : p / (((splL o p l m).length / c : Nat) : Int) * ((m / Nat.gcd c m : Nat) : Int) ≤ p / (((splL o p l m).length / c : Nat) : Int) * (((splL o p l m).length / c : Nat) : Int) := Int.mul_le_mul_of_nonneg_left (by omega) hd.1
    have s2 := Int.ediv_mul_le p (show (((splL o p l m).length / c : Nat) : Int) ≠ 0 by omega)
    have := hv.p2
    omega
  have h := p_group_Groups (first := 0) (m := m) hx (by omega) (by omega) hm (by omega)
  rw [if_pos hb] at h
  have hGP := grp_PL (first := 0) (m := m) hx (by omega) (by omega) hm hb
  rw [made_same hv hGP fun k => ?_] at h
  · exact h
  · have hg := grp_at hx 0 m k
    rw [(hat _).1, (hat _).2] at hg
    have s1 := (spl_at (m := m) hv k (r := 0) (by omega)).1
    have s2 := (spl_at (m := m) hv k (r := m - 1) (by omega)).2
    have i1 : (0 : Int) + k * (m : Int) = k * m + ((0 : Nat) : Int) := by omega
    have i2 : (0 : Int) + (k + 1) * (m : Int) - 1 = k * m + ((m - 1 : Nat) : Int) := by rw [Int.add_mul]; omega
    rw [i1, i2, s1, s2] at hg
    rw [hg.1, hg.2]
    obtain ⟨q, b, hbl, rfl⟩ := int_parts k h0
    have ht := hB b hbl
    simp only [splB, beq_iff_eq] at ht
    have ha := at_in o p hbl
    have a1 := at_add o p h0 (b : Int) q
    rw [Int.add_comm ((l.length : Int) * q), a1.1, a1.2]
    rw [show tt l b - fr l b = atT o p l b - atF o p l b by omega] at ht
    rw [show atT o p l b + p * q - (atF o p l b + p * q) = atT o p l b - atF o p l b by omega]
    have e9 := Int.emod_def (atT o p l b - atF o p l b) (m : Int)
    rw [show ((m - 1 : Nat) : Int) + 1 = (m : Int) by omega]
    simp only [show ((0 : Nat) : Int) = 0 from rfl, Int.zero_mul]
    omega
end
/-- groups that come out -/
theorem groups_ok {o p : Int} {l : List Sp} {m : Nat} (hv : Vd o p l) (first : Int) (hf1 : -268435456 ≤ first) (hf2 : first ≤ 268435456) (hm : 1 ≤ m) (hm2 : m ≤ 12622780800) :
    (∃ a b x e, m_group_Groups std o p first (m : Int) l = some (a, b, x, e) ∧ e ≠ 0) ∨
    ∃ L P, m_group_Groups std o p first (m : Int) l = some (fr L 0, ofP P L, ofL P L, 0) ∧ PL P L ∧ halfB (fr L 0) = true ∧ ∀ j : Int, atF 0 P L j = atF o p l (first + j * m) ∧ atT 0 P L j = atT o p l (first + (j + 1) * m - 1) := by
  have h := p_group_Groups (first := first) hv hf1 hf2 hm hm2
  by_cases hb : bP p l m ≤ 12622780800
  · rw [if_pos hb] at h
    have hP := grp_PL hv hf1 hf2 hm hb
    cases hh : halfB (fr (grpL o p l first m) 0) with
    | false =>
      left
      unfold mkR at h
      rw [if_neg (by rw [hh]; simp)] at h
      exact ⟨_, _, _, _, h, by omega⟩
    | true =>
      right
      unfold mkR at h
      rw [if_pos hh] at h
      exact ⟨_, _, h, hP, hh, fun j => grp_at hv first m j⟩
  · rw [if_neg hb] at h
    exact .inl ⟨_, _, _, _, h, by omega⟩
theorem pl_GroupUndone (o p mi ni : Int) (l : List Sp) : m_law16_GroupUndone std o p mi ni l = some true := by
  rw [m_law16_GroupUndone_eq, awake16, p_law16_great]
  refine bB rfl (bF rfl ?_)
  by_cases hgr : 40 < l.length
  · exact bB (v := true) (bB rfl (bT (dT hgr) rfl)) rfl
  have hV := p_granule_Valid o p l (by omega)
  rw [hV]
  cases hv : validB o p l with
  | false => exact bB (v := true) (bB rfl (bF (dF hgr) (bB rfl (bT rfl rfl)))) rfl
  | true =>
  by_cases h1 : mi < 1
  · exact bB (v := true) (bB rfl (bF (dF hgr) (bB rfl (bF rfl (bT (dT h1) rfl))))) rfl
  by_cases h2 : 50 < mi
  · exact bB (v := true) (bB rfl (bF (dF hgr) (bB rfl (bF rfl (bF (dF h1) (bT (dT h2) rfl)))))) rfl
  by_cases h3 : ni < 1
  · exact bB (v := true) (bB rfl (bF (dF hgr) (bB rfl (bF rfl (bF (dF h1) (bF (dF h2) (bT (dT h3) rfl))))))) rfl
  by_cases h4 : 50 < ni
  · exact bB (v := true) (bB rfl (bF (dF hgr) (bB rfl (bF rfl (bF (dF h1) (bF (dF h2) (bF (dF h3) (congrArg some (dT h4))))))))) rfl
  refine bB (v := false) (bB rfl (bF (dF hgr) (bB rfl (bF rfl (bF (dF h1) (bF (dF h2) (bF (dF h3) (congrArg some (dF h4))))))))) (bF rfl ?_)
  have hd := Vd.of hv
  obtain ⟨m, rfl⟩ : ∃ m : Nat, mi = m := ⟨mi.toNat, by omega⟩
  obtain ⟨n, rfl⟩ : ∃ n : Nat, ni = n := ⟨ni.toNat, by omega⟩
  have hS := p_ref16_Same o p (l := l) (by omega)
  refine bB (groups_one hd) (bB (v := false) (bF rfl (bB hS rfl)) (bF rfl (bB (p_Undone_L1 (by omega)) ?_)))
  -- all picked
  have hk := up_ok (m := m) hd (by omega) (by omega) (by omega)
  obtain ⟨a, b, x, e, hp1, hp2⟩ : ∃ a b x e, m_group_Pick std o p (m : Int) l (upL m) = some (a, b, x, e) ∧ (e = 0 → a = o ∧ b = p ∧ x = l) := by
    have hL : loop (m_group_Pick_L1 std (upL m) (m : Int)) 0 = some (.inr ()) := by
      rcases p_Pick_loops (upL m) (m : Int) (by rw [upL_len]; omega) with ⟨k, hk', h5, _⟩ | ⟨_, h5, _⟩
      · exfalso
        have h6 := loop_to' (B := m_group_Pick_L1 std (upL m) (m : Int)) (n := (upL m).length) (fun i => (i : Int)) (e := .inr ()) (by rw [upL_len]; omega) (fun i hi => by rw [p_group_Pick_L1 (upL m) (m : Int) (by rw [upL_len]; omega) hi, if_pos (hk.hB i hi)]) (by rw [m_group_Pick_L1_eq]; exact bF (dF (by omega)) rfl)
        have h7 : loop (m_group_Pick_L1 std (upL m) (m : Int)) 0 = some (.inr ()) := h6
        rw [h5] at h7
        cases h7
      · exact h5
    have h6 := p_group_Pick hk hL
    by_cases hb : bP p l m ≤ 12622780800
    · rw [if_pos hb, pick_all hk hb] at h6
      exact ⟨_, _, _, _, h6, fun _ => ⟨rfl, rfl, rfl⟩⟩
    · rw [if_neg hb] at h6
      exact ⟨_, _, _, _, h6, fun h => by omega⟩
  refine bB hp1 (bB (v := false) ?_ (bF rfl ?_))
  · by_cases he : e = 0
    · obtain ⟨rfl, rfl, rfl⟩ := hp2 he
      exact bT (eT he) (bB hS rfl)
    · exact bF (eF he) rfl
  clear hp1 hp2 a b x e hk
  -- split, and grouped
  have hs : ∃ a b x e, m_group_Split std o p (m : Int) l = some (a, b, x, e) ∧ (e = 0 → m_group_Groups std a b 0 (m : Int) x = some (o, p, l, 0)) := by
    rcases first_or (splB l m) l.length with hB | ⟨k, hk, hk2, hB⟩
    · have e1 := p_group_Split hd (by omega) (by omega) (p_Contains_ok hd (by omega) hB) (fun _ => hB)
      by_cases hn : l.length * m ≤ 5000
      · obtain ⟨P, L, g1, g2⟩ := split_groups hd (by omega) hn hB
        rw [if_pos hn, if_neg (by simp), g1] at e1
        exact ⟨_, _, _, _, e1, fun _ => g2⟩
      · rw [if_neg hn] at e1
        exact ⟨_, _, _, _, e1, fun h => by omega⟩
    · have e1 := p_group_Split hd (by omega) (by omega) (p_Contains_no hd (by omega) hk hk2 hB) (fun h => by cases h)
      by_cases hn : l.length * m ≤ 5000
      · rw [if_pos hn, if_pos rfl] at e1
        exact ⟨_, _, _, _, e1, fun h => by omega⟩
      · rw [if_neg hn] at e1
        exact ⟨_, _, _, _, e1, fun h => by omega⟩
  obtain ⟨a, b, x, e, hs1, hs2⟩ := hs
  refine bB hs1 (bB (v := .inr ()) ?_ ?_)
  · by_cases he : e = 0
    · exact bT (eT he) (bB (hs2 he) (bB (v := false) (bF rfl (bB hS rfl)) (bF rfl rfl)))
    · exact bF (eF he) rfl
  clear hs1 hs2 a b x e
  -- groups of groups
  have hmn : (m : Int) * (n : Int) = ((m * n : Nat) : Int) := (Int.natCast_mul _ _).symm
  have hmn2 : m * n ≤ 2500 := Nat.mul_le_mul (show m ≤ 50 by omega) (show n ≤ 50 by omega)
  have hmn1 : 1 ≤ m * n := Nat.mul_pos (show 0 < m by omega) (show 0 < n by omega)
  have hz : ∃ a b x e, m_group_Groups std o p 0 ((m : Int) * (n : Int)) l = some (a, b, x, e) ∧ (e = 0 → ∃ L P, a = fr L 0 ∧ b = ofP P L ∧ x = ofL P L ∧ PL P L ∧ halfB (fr L 0) = true ∧ ∀ j : Int, atF 0 P L j = atF o p l (0 + j * ((m * n : Nat) : Int)) ∧ atT 0 P L j = atT o p l (0 + (j + 1) * ((m * n : Nat) : Int) - 1)) := by
    rw [hmn]
    rcases groups_ok (m := m * n) hd 0 (by omega) (by omega) hmn1 (by omega) with ⟨a, b, x, e, g1, g2⟩ | ⟨L, P, g1, g2, g3, g4⟩
    · exact ⟨a, b, x, e, g1, fun h => absurd h g2⟩
    · exact ⟨_, _, _, _, g1, fun _ => ⟨L, P, rfl, rfl, rfl, g2, g3, g4⟩⟩
  obtain ⟨a3, b3, x3, e3, z1, z2⟩ := hz
  rcases groups_ok (m := m) hd 0 (by omega) (by omega) (by omega) (by omega) with ⟨a1, b1, x1, e1, g1, g2⟩ | ⟨L, P, g1, g2, g3, g4⟩
  · -- no groups
    obtain ⟨a2, b2, x2, e2, y1⟩ : ∃ a b x e, m_group_Groups std a1 b1 0 (n : Int) x1 = some (a, b, x, e) := by
      have h := p_group_Groups (first := 0) (m := m) hd (by omega) (by omega) (by omega) (by omega)
      rw [g1] at h
      have hx : x1 = [] := by
        by_cases hb : bP p l m ≤ 12622780800
        · rw [if_pos hb] at h
          unfold mkR at h
          split at h
          · simp only [Option.some.injEq, Prod.mk.injEq] at h; exact absurd h.2.2.2 g2
          · simp only [Option.some.injEq, Prod.mk.injEq] at h; exact h.2.2.1
        · rw [if_neg hb] at h
          simp only [Option.some.injEq, Prod.mk.injEq] at h; exact h.2.2.1
      subst hx
      exact ⟨_, _, _, _, Groups_bad (.inl (by simp [validB])) _ (by simp)⟩
    exact bB g1 (bB y1 (gI (by omega) (bB z1 (bB (v := true) (bT (nT (eF g2)) rfl) rfl))))
  · have hx := mkR_ok g2 g3
    have hat := made_at g2
    rcases groups_ok (m := n) hx 0 (by omega) (by omega) (by omega) (by omega) with ⟨a2, b2, x2, e2, y1, y2⟩ | ⟨L2, P2, y1, y2, y3, y4⟩
    · exact bB g1 (bB y1 (gI (by omega) (bB z1 (bB (v := true) (bF (nF (eT rfl)) (bT (nT (eF y2)) rfl)) rfl))))
    · refine bB g1 (bB y1 (gI (by omega) (bB z1 (bB (v := true) (bF (nF (eT rfl)) (bF (nF (eT rfl)) ?_)) rfl))))
      by_cases he : e3 = 0
      · refine bF (nF (eT he)) ?_
        obtain ⟨L3, P3, rfl, rfl, rfl, t1, t2, t3⟩ := z2 he
        have heq := made_eq y2 t1 fun k => by
          rw [(y4 k).1, (y4 k).2, (t3 k).1, (t3 k).2, (hat _).1, (hat _).2, (g4 _).1, (g4 _).2]
          have i1 : (0 : Int) + (0 + k * (n : Int)) * (m : Int) = 0 + k * ((m * n : Nat) : Int) := by
            rw [Int.natCast_mul, Int.zero_add, Int.zero_add, Int.zero_add, Int.mul_assoc, Int.mul_comm (n : Int)]
          have i2 : (0 : Int) + ((0 + (k + 1) * (n : Int) - 1) + 1) * (m : Int) - 1 = 0 + (k + 1) * ((m * n : Nat) : Int) - 1 := by
            rw [Int.natCast_mul, Int.sub_add_cancel, Int.zero_add, Int.zero_add, Int.zero_add, Int.mul_assoc, Int.mul_comm (n : Int)]
          rw [i1, i2]
          exact ⟨rfl, rfl⟩
        unfold mkR at heq
        rw [if_pos y3, if_pos t2] at heq
        simp only [Prod.mk.injEq] at heq
        obtain ⟨q1, q2, q3, _⟩ := heq
        rw [q1, q2, q3]
        exact bB (p_ref16_Same _ _ (mkR_ok t1 t2).n5) rfl
      · exact bT (nT (eF he)) rfl
end Go.Proofs.Ytoklfjkanipjkaa
