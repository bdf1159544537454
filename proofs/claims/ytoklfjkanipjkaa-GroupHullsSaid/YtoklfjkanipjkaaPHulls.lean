/-
  GroupHulls, the plain law.
-/
import Derived.Test.YtoklfjkanipjkaaPUndone
import Derived.Test.YtoklfjkanipjkaaPSpan
namespace Go.Proofs.Ytoklfjkanipjkaa
open Go.RowKit

theorem Pick_L_ok {o p : Int} {l : List Sp} {m : Nat} {ks : List Int} (hk : PkOk o p l m ks) : loop (m_group_Pick_L1 std ks (m : Int)) 0 = some (.inr ()) := by
  have h5 : ks.length ≤ 5000 := by have := hk.k40; omega
  exact loop_to' (B := m_group_Pick_L1 std ks (m : Int)) (n := ks.length) (fun i => (i : Int)) (e := .inr ()) (by omega) (fun i hi => by rw [p_group_Pick_L1 ks (m : Int) h5 hi, if_pos (hk.hB i hi)]) (by rw [m_group_Pick_L1_eq]; exact bF (dF (by omega)) rfl)
/-- picks that come out -/
theorem pick_ok {o p : Int} {l : List Sp} {m : Nat} {ks : List Int} (hk : PkOk o p l m ks) :
    (∃ a b x e, m_group_Pick std o p (m : Int) l ks = some (a, b, x, e) ∧ e ≠ 0) ∨
    ∃ L P, m_group_Pick std o p (m : Int) l ks = some (fr L 0, ofP P L, ofL P L, 0) ∧ PL P L ∧ halfB (fr L 0) = true ∧ ∀ (j : Int) (r : Nat), r < ks.length → atF 0 P L (j * ks.length + r) = atF o p l (j * m + kk ks r) ∧ atT 0 P L (j * ks.length + r) = atT o p l (j * m + kk ks r) := by
  have h := p_group_Pick hk (Pick_L_ok hk)
  by_cases hb : bP p l m ≤ 12622780800
  · rw [if_pos hb] at h
    have hP := pk_PL hk hb
    cases hh : halfB (fr (pkL o p l m ks) 0) with
    | false =>
      left
      unfold mkR at h
      rw [if_neg (by rw [hh]; simp)] at h
      exact ⟨_, _, _, _, h, by omega⟩
    | true =>
      right
      unfold mkR at h
      rw [if_pos hh] at h
      exact ⟨_, _, h, hP, hh, fun j r hr => pk_at hk j hr⟩
  · rw [if_neg hb] at h
    exact .inl ⟨_, _, _, _, h, by omega⟩
theorem onB_eq {o p k o' p' k' : Int} {l l' : List Sp} (e1 : atF o p l k = atF o' p' l' k') (e2 : atT o p l k = atT o' p' l' k') : onB o p l k = onB o' p' l' k' := by unfold onB; rw [e1, e2]
theorem span_eq {o p k o' p' k' : Int} {l l' : List Sp} (hv : validB o p l = true) (hv' : validB o' p' l' = true) (e1 : atF o p l k = atF o' p' l' k') (e2 : atT o p l k = atT o' p' l' k') :
    spanE o p l k = spanE o' p' l' k' ∧ spanF o p l k = spanF o' p' l' k' ∧ spanT o p l k = spanT o' p' l' k' := by
  have h := onB_eq e1 e2
  have hE : spanE o p l k = spanE o' p' l' k' := by unfold spanE; rw [hv, hv', h]
  exact ⟨hE, by unfold spanF; rw [hE, e1], by unfold spanT; rw [hE, e2]⟩
theorem spanE_if {o p k : Int} {l : List Sp} (hv : validB o p l = true) : spanE o p l k = if onB o p l k then 0 else 2 := by unfold spanE; rw [if_pos hv]
theorem j_bd {j m : Int} (h1 : -1000 ≤ j) (h2 : j ≤ 1001) (h3 : 1 ≤ m) (h4 : m ≤ 100) : -100100 ≤ j * m ∧ j * m ≤ 100100 := by
  have a1 : j * m ≤ 1001 * m := Int.mul_le_mul_of_nonneg_right h2 (by omega)
  have a2 : (-1000) * m ≤ j * m := Int.mul_le_mul_of_nonneg_right h1 (by omega)
  omega
theorem pl_GroupHulls (o p first mi j : Int) (l : List Sp) : m_law16_GroupHulls std o p first mi j l = some true := by
  rw [m_law16_GroupHulls_eq, awake16, p_law16_great]
  refine bB rfl (bF rfl ?_)
  by_cases hgr : 40 < l.length
  · exact bB (v := true) (bB rfl (bT (dT hgr) rfl)) rfl
  by_cases h1 : mi < 1
  · exact bB (v := true) (bB rfl (bF (dF hgr) (bT (dT h1) rfl))) rfl
  by_cases h2 : 100 < mi
  · exact bB (v := true) (bB rfl (bF (dF hgr) (bF (dF h1) (bT (dT h2) rfl)))) rfl
  by_cases h3 : first < -100000
  · exact bB (v := true) (bB rfl (bF (dF hgr) (bF (dF h1) (bF (dF h2) (bT (dT h3) rfl))))) rfl
  by_cases h4 : 100000 < first
  · exact bB (v := true) (bB rfl (bF (dF hgr) (bF (dF h1) (bF (dF h2) (bF (dF h3) (bT (dT h4) rfl)))))) rfl
  by_cases h5 : j < -1000
  · exact bB (v := true) (bB rfl (bF (dF hgr) (bF (dF h1) (bF (dF h2) (bF (dF h3) (bF (dF h4) (bT (dT h5) rfl))))))) rfl
  by_cases h6 : 1000 < j
  · exact bB (v := true) (bB rfl (bF (dF hgr) (bF (dF h1) (bF (dF h2) (bF (dF h3) (bF (dF h4) (bF (dF h5) (congrArg some (dT h6))))))))) rfl
  refine bB (v := false) (bB rfl (bF (dF hgr) (bF (dF h1) (bF (dF h2) (bF (dF h3) (bF (dF h4) (bF (dF h5) (congrArg some (dF h6))))))))) (bF rfl ?_)
  cases hv : validB o p l with
  | false => exact bB (Groups_bad (.inl hv) _ (by omega)) (bT rfl rfl)
  | true =>
  have hd := Vd.of hv
  obtain ⟨m, rfl⟩ : ∃ m : Nat, mi = m := ⟨mi.toNat, by omega⟩
  rcases groups_ok (m := m) hd first (by omega) (by omega) (by omega) (by omega) with ⟨a, b, x, e, g1, g2⟩ | ⟨L, P, g1, g2, g3, g4⟩
  · exact bB g1 (bT (nT (eF g2)) rfl)
  have hx := mkR_ok g2 g3
  have hxv := hx.back
  have hat := made_at g2
  have q1 := j_bd (j := j) (m := m) (by omega) (by omega) (by omega) (by omega)
  have q2 := j_bd (j := j + 1) (m := m) (by omega) (by omega) (by omega) (by omega)
  have hjm : (j + 1) * (m : Int) = j * m + m := by rw [Int.add_mul, Int.one_mul]
  have S : ∀ k : Int, -1000000 ≤ k → k ≤ 1000000 → m_granule_Span std o p k l = some (spanF o p l k, spanT o p l k, spanE o p l k) := fun k k1 k2 => p_granule_Span o p k l (by omega) (by omega) (by omega)
  have hxF := (hat j).1.trans (g4 j).1
  have hxT := (hat j).2.trans (g4 j).2
  refine bB g1 (bF (nF (eT rfl)) (bB (p_granule_Span _ _ j _ (by have := hx.n5; omega) (by omega) (by omega)) (gI (by omega) (gI (by omega) (bB (S _ (by omega) (by omega)) (gI (by omega) (gI (by omega) (gI (by omega) (gI (by omega) (bB (S _ (by omega) (by omega)) ?_))))))))))
  -- what is on the line
  have lt1 := at_lt hd (first + j * (m : Int))
  have lt2 := at_lt hd (first + (j + 1) * (m : Int) - 1)
  have mono : atF o p l (first + j * (m : Int)) ≤ atF o p l (first + (j + 1) * (m : Int) - 1) := at_mono' hd (by omega)
  have mono2 : atT o p l (first + j * (m : Int)) ≤ atT o p l (first + (j + 1) * (m : Int) - 1) := by
    by_cases hm : (m : Int) = 1
    · have : first + (j + 1) * (m : Int) - 1 = first + j * (m : Int) := by omega
      rw [this]; exact Int.le_refl _
    · have : atF o p l (first + j * (m : Int) + 1) ≤ atF o p l (first + (j + 1) * (m : Int) - 1) := at_mono' hd (by omega)
      omega
  have hon : onB (fr L 0) (ofP P L) (ofL P L) j = (onB o p l (first + j * (m : Int)) && onB o p l (first + (j + 1) * (m : Int) - 1)) := by
    refine Bool.eq_iff_iff.2 ?_
    unfold onB
    rw [hxF, hxT]
    simp only [Bool.and_eq_true, lineB_iff]
    omega
  refine bB (v := false) ?_ (bF rfl (bB (v := false) ?_ (bF rfl (gI (by omega) ?_))))
  · rw [spanE_if hxv, spanE_if hv, spanE_if hv, hon]
    cases onB o p l (first + j * (m : Int)) <;> cases onB o p l (first + (j + 1) * (m : Int) - 1) <;> rfl
  · cases h9 : onB (fr L 0) (ofP P L) (ofL P L) j with
    | false => exact bF (eF (by rw [spanE_if hxv, h9]; simp)) rfl
    | true =>
      have h8 := hon.symm.trans h9
      simp only [Bool.and_eq_true] at h8
      obtain ⟨_, b2, b3⟩ := spanE_on hxv h9
      obtain ⟨_, c2, _⟩ := spanE_on hv h8.1
      obtain ⟨_, _, d3⟩ := spanE_on hv h8.2
      refine bT (eT (by rw [spanE_if hxv, h9]; rfl)) (bF (nF (eT ?_)) (congrArg some (nF (eT ?_))))
      · rw [b2, c2, hxF]
      · rw [b3, d3, hxT]
  -- one picked
  have hk : PkOk o p l m [(m : Int) - 1] := ⟨hd, by omega, by simp, by simp, by omega, by omega, fun k hk => by
    have : k = 0 := by simpa using hk
    subst this
    refine pkB_iff.2 ?_
    have e0 : kk [(m : Int) - 1] 0 = (m : Int) - 1 := rfl
    rw [e0]
    exact ⟨by omega, by omega, .inl rfl⟩⟩
  rcases pick_ok hk with ⟨a, b, x, e, t1, t2⟩ | ⟨L', P', t1, t2, t3, t4⟩
  · exact bB t1 (bT (nT (eF t2)) rfl)
  have hy := mkR_ok t2 t3
  have hyv := hy.back
  have hat' := made_at t2
  have t5 := t4 j 0 (by simp)
  simp only [List.length_singleton, kk, List.getD_cons_zero, Int.natCast_one, Int.mul_one, Int.natCast_zero, Int.add_zero] at t5
  have hi : j * (m : Int) + ((m : Int) - 1) = (j + 1) * (m : Int) - 1 := by omega
  rw [hi] at t5
  obtain ⟨u1, u2, u3⟩ := span_eq hyv hv ((hat' j).1.trans t5.1) ((hat' j).2.trans t5.2)
  refine bB t1 (bF (nF (eT rfl)) (bB (p_granule_Span _ _ j _ (by have := hy.n5; omega) (by omega) (by omega)) (gI (by omega) (bB (S _ (by omega) (by omega)) (bB (v := true) (bT (eT u1) ?_) rfl)))))
  rw [u2, u3]
  simp
end Go.Proofs.Ytoklfjkanipjkaa
