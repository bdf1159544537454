/-
  GroupMerges, the plain law.
-/
import Derived.Test.YtoklfjkanipjkaaPMerge
namespace Go.Proofs.Ytoklfjkanipjkaa
open Go.RowKit

theorem mi_eq (a b : Int) : mi a b = if b < a then b else a := rfl
section
variable {o P M F f1 f2 : Int} {l : List Sp} {w n : Nat}
theorem p_integer_Mod' {a b : Int} (ha1 : -9223372036854775808 ≤ a) (ha2 : a ≤ 9223372036854775807) (hb : 1 ≤ b) (hb2 : b ≤ 9223372036854775807) : m_integer_Mod std a b = some (a % b) := p_integer_Mod a b ha1 ha2 hb hb2
/-- a round of the program's loops over one calendar -/
theorem Win.step (h : Win o P M F l w n) {i : Nat} (hi : i < n) : m_group_at std o P (i : Int) l = some (atF o P l i, atT o P l i) ∧ -9223372036854775808 ≤ atF o P l i - F ∧ atF o P l i - F ≤ 9223372036854775807 ∧
    0 ≤ (atF o P l i - F) % M ∧ (atF o P l i - F) % M < M ∧ -2199023255552 ≤ F ∧ F ≤ 2199023255552 ∧ 1 ≤ M ∧ M ≤ 12622780800 ∧ -2199023255552 ≤ atF o P l i ∧ atF o P l i ≤ 2211646036352 ∧ -2199023255552 ≤ atT o P l i ∧ atT o P l i ≤ 2211646036352 := by
  obtain ⟨h1, h2, h3, h4⟩ := h.bd hi
  have o1 := h.hv.o1
  have o2 := h.hv.o2
  have g1 := h.f1
  have g2 := h.f2
  have m1 := h.m1
  have m2 := h.m2
  have hm := div_bd (a := atF o P l i - F) m1.1
  exact ⟨p_group_at h.hv h1, by omega, by omega, hm.1, hm.2, g1, by omega, m1.1, m2, by omega, by omega, by omega, by omega⟩
theorem p_Merge_L1 (h : Win o P M F l w n) (hF : mi f1 f2 = F) (hq : Int.tdiv M P = (w : Int)) (pre : List Sp) (hp : pre.length ≤ 5000) :
    loop (m_group_Merge_L1 std o P l M f1 f2) (0, pre) = some (pre ++ gl n (pgF o P M F l)) := by
  have hn : ((l.length : Nat) : Int) * (w : Int) = (n : Int) := by rw [h.hn, Int.natCast_mul]
  have h5 := h.n5
  have := loop_to' (B := m_group_Merge_L1 std o P l M f1 f2) (n := n) (fun i => ((i : Int), pre ++ gl i (pgF o P M F l))) (e := pre ++ gl n (pgF o P M F l)) (by omega) (fun i hi => ?_) ?_
  · simpa [gl_zero] using this
  · obtain ⟨a1, a2, a3, a4, a5, a6, a7, a8, a9, b1, b2, b3, b4⟩ := h.step hi
    rw [m_group_Merge_L1_eq, hF, hq, hn, gl_succ]
    refine bT (dT (by omega)) (bB a1 (gI (by omega) (bB (p_integer_Mod' a2 a3 a8 (by omega)) (gI (by omega) (gI (by omega) (gI (by omega) (gR (by rw [List.length_append, gl_len]; omega) (gR (by simp) (gI (by omega) ?_)))))))))
    rw [List.append_assoc]
    rfl
  · rw [m_group_Merge_L1_eq, hq, hn]; exact bF (dF (by omega)) rfl
theorem p_Merge_L2 (h : Win o P M F l w n) (hF : mi f1 f2 = F) (hq : Int.tdiv M P = (w : Int)) (pre : List Sp) (hp : pre.length ≤ 5000) :
    loop (m_group_Merge_L2 std o P l M f1 f2) (0, pre) = some (pre ++ gl n (pgF o P M F l)) := by
  have hn : ((l.length : Nat) : Int) * (w : Int) = (n : Int) := by rw [h.hn, Int.natCast_mul]
  have h5 := h.n5
  have := loop_to' (B := m_group_Merge_L2 std o P l M f1 f2) (n := n) (fun i => ((i : Int), pre ++ gl i (pgF o P M F l))) (e := pre ++ gl n (pgF o P M F l)) (by omega) (fun i hi => ?_) ?_
  · simpa [gl_zero] using this
  · obtain ⟨a1, a2, a3, a4, a5, a6, a7, a8, a9, b1, b2, b3, b4⟩ := h.step hi
    rw [m_group_Merge_L2_eq, hF, hq, hn, gl_succ]
    refine bT (dT (by omega)) (bB a1 (gI (by omega) (bB (p_integer_Mod' a2 a3 a8 (by omega)) (gI (by omega) (gI (by omega) (gI (by omega) (gR (by rw [List.length_append, gl_len]; omega) (gR (by simp) (gI (by omega) ?_)))))))))
    rw [List.append_assoc]
    rfl
  · rw [m_group_Merge_L2_eq, hq, hn]; exact bF (dF (by omega)) rfl
end
/-! the check of neighbours -/
def nxt (l : List Sp) (M : Int) (k : Nat) : Int := if k + 1 < l.length then fr l (k + 1) else fr l 0 + M
def chB (l : List Sp) (M : Int) (k : Nat) : Bool := decide (tt l k ≤ nxt l M k)
theorem p_Merge_L3_at {l : List Sp} {M : Int} (h5 : l.length ≤ 5000) (hb : -9223372036854775808 ≤ fr l 0 + M ∧ fr l 0 + M ≤ 9223372036854775807) {k : Nat} (hk : k < l.length) :
    m_group_Merge_L3 std l M (k : Int) = some (if chB l M k then .inl ((k + 1 : Nat) : Int) else .inr (.inl ())) := by
  rw [m_group_Merge_L3_eq]
  have e1 : ((k : Int) + 1).toNat = k + 1 := by omega
  simp only [Int.toNat_natCast, Int.toNat_zero, fr_def, tt_def, e1]
  refine bT (dT (by omega)) (gX (by omega) (gK (by omega) (gX (by omega) (gK (by omega) (gI hb (gI (by omega) (bB (v := nxt l M k) ?_ ?_)))))))
  · unfold nxt
    by_cases h : k + 1 < l.length
    · rw [if_pos h]; exact bT (dT (by omega)) (gX (by omega) (gK h rfl))
    · rw [if_neg h]; exact bF (dF (by omega)) rfl
  · by_cases h : tt l k ≤ nxt l M k
    · have : chB l M k = true := dT h
      rw [this]; exact bF (dF (by omega)) rfl
    · have : chB l M k = false := dF h
      rw [this]; exact bT (dT (by omega)) rfl
theorem p_Merge_L3 {l : List Sp} {M : Int} (h5 : l.length ≤ 5000) (hb : -9223372036854775808 ≤ fr l 0 + M ∧ fr l 0 + M ≤ 9223372036854775807) :
    ((∀ k, k < l.length → chB l M k = true) ∧ loop (m_group_Merge_L3 std l M) 0 = some (.inr ())) ∨ ((∃ k, k < l.length ∧ chB l M k = false) ∧ loop (m_group_Merge_L3 std l M) 0 = some (.inl ())) := by
  rcases first_or (chB l M) l.length with h | ⟨k, hk, h1, h2⟩
  · left
    refine ⟨h, loop_to' (B := m_group_Merge_L3 std l M) (n := l.length) (fun i => (i : Int)) (e := .inr ()) (by omega) (fun i hi => by rw [p_Merge_L3_at h5 hb hi, if_pos (h i hi)]) ?_⟩
    rw [m_group_Merge_L3_eq]; exact bF (dF (by omega)) rfl
  · right
    refine ⟨⟨k, hk, h1⟩, loop_to' (B := m_group_Merge_L3 std l M) (n := k) (fun i => (i : Int)) (e := .inl ()) (by omega) (fun i hi => by rw [p_Merge_L3_at h5 hb (by omega), if_pos (h2 i hi)]) ?_⟩
    rw [p_Merge_L3_at h5 hb hk, h1]; rfl
theorem chk_good {l : List Sp} {M : Int} (hn : Ne1 l) (h0 : 0 < l.length) (h : ∀ k, k < l.length → chB l M k = true) : Asc1 l ∧ GoodW M l := by
  have ha : Asc1 l := asc_of_next hn fun k hk => by
    have := of_decide_eq_true (h k (by omega))
    unfold nxt at this
    rw [if_pos hk] at this
    exact this
  refine ⟨ha, good_of_asc hn ha ?_⟩
  have := of_decide_eq_true (h (l.length - 1) (by omega))
  unfold nxt at this
  rw [if_neg (by omega)] at this
  exact this
theorem good_chk {l : List Sp} {M : Int} (h0 : 0 < l.length) (ha : Asc1 l) (hg : GoodW M l) : ∀ k, k < l.length → chB l M k = true := fun k hk => by
  refine dT ?_
  unfold nxt
  by_cases h : k + 1 < l.length
  · rw [if_pos h]; exact asc_next ha h
  · rw [if_neg h]
    have := good_last h0 hg
    rwa [show l.length - 1 = k by omega] at this

/-! the program -/
section
variable {ao ap bo bp M F : Int} {al bl : List Sp} {u v p q : Nat}
/-- both windows -/
def winL (ao ap bo bp F : Int) (al bl : List Sp) (p q : Nat) : List Sp := gl p (inn ao ap al F) ++ gl q (inn bo bp bl F)
theorem winL_len : (winL ao ap bo bp F al bl p q).length = p + q := by unfold winL; rw [List.length_append, gl_len, gl_len]
theorem winL_mem (ha : Win ao ap M F al u p) (hb : Win bo bp M F bl v q) {x : Sp} (hx : x ∈ winL ao ap bo bp F al bl p q) : F ≤ x.1 ∧ x.1 < F + M ∧ x.1 < x.2 := by
  unfold winL at hx
  rcases List.mem_append.1 hx with h | h
  · obtain ⟨k, hk, rfl⟩ := mem_gl h
    have := ha.in hk
    exact ⟨this.1, this.2.1, this.2.2.1⟩
  · obtain ⟨k, hk, rfl⟩ := mem_gl h
    have := hb.in hk
    exact ⟨this.1, this.2.1, this.2.2.1⟩
theorem perm_facts (ha : Win ao ap M F al u p) (hb : Win bo bp M F bl v q) {L : List Sp} (hL : L.Perm (winL ao ap bo bp F al bl p q)) : L.length = p + q ∧ Ne1 L ∧ ∀ x ∈ L, F ≤ x.1 ∧ x.1 ≤ F + M := by
  refine ⟨by rw [hL.length_eq, winL_len], fun x hx => (winL_mem ha hb (hL.mem_iff.1 hx)).2.2, fun x hx => ?_⟩
  have := winL_mem ha hb (hL.mem_iff.1 hx)
  omega
theorem perm_PL (ha : Win ao ap M F al u p) (hb : Win bo bp M F bl v q) (hpq : p + q ≤ 5000) {L : List Sp} (hL : L.Perm (winL ao ap bo bp F al bl p q)) (hasc : Asc1 L) (hg : GoodW M L) : PL M L := by
  obtain ⟨h1, h2, h3⟩ := perm_facts ha hb hL
  have p0 := ha.n0
  have m1 := ha.m1
  have m2 := ha.m2
  have f1 := ha.f1
  have f2 := ha.f2
  have o2 := ha.hv.o2
  exact asc_PL (lo := F) (hi := F + M) (by omega) (by omega) m1.1 m2 h2 hasc hg h3 (by omega) (by omega)
theorem p_group_Merge (ha : Win ao ap M F al u p) (hb : Win bo bp M F bl v q) (hc : comP ap bp = M) (hu : Int.tdiv M ap = (u : Int)) (hv : Int.tdiv M bp = (v : Int)) (hF : mi ao bo = F) :
    (5000 < p + q ∧ m_group_Merge std ao ap bo bp al bl = some (0, 0, [], 5)) ∨
    (p + q ≤ 5000 ∧ ∃ L, L.Perm (winL ao ap bo bp F al bl p q) ∧ ((GoodW M (winL ao ap bo bp F al bl p q) ∧ Asc1 L ∧ m_group_Merge std ao ap bo bp al bl = some (mkR M L)) ∨ (¬ GoodW M (winL ao ap bo bp F al bl p q) ∧ m_group_Merge std ao ap bo bp al bl = some (0, 0, [], 6)))) := by
  have ap1 := ha.hv.p1
  have ap2 := ha.hv.p2
  have bp1 := hb.hv.p1
  have bp2 := hb.hv.p2
  have a5 := ha.hv.n5
  have b5 := hb.hv.n5
  have m2 := ha.m2
  have hM0 := ha.m1
  have p5 := ha.n5
  have q5 := hb.n5
  have hG := p_group_common ap1 ap2 bp1 bp2
  rw [hc, if_pos m2] at hG
  have hpn : ((al.length : Nat) : Int) * (u : Int) = (p : Int) := by rw [ha.hn, Int.natCast_mul]
  have hqn : ((bl.length : Nat) : Int) * (v : Int) = (q : Int) := by rw [hb.hn, Int.natCast_mul]
  have hul : (u : Int) ≤ p := by rw [← hpn]; have := Int.mul_le_mul_of_nonneg_right (show (1 : Int) ≤ (al.length : Int) by have := ha.hv.n0; omega) (show 0 ≤ (u : Int) by omega); omega
  have hvl : (v : Int) ≤ q := by rw [← hqn]; have := Int.mul_le_mul_of_nonneg_right (show (1 : Int) ≤ (bl.length : Int) by have := hb.hv.n0; omega) (show 0 ≤ (v : Int) by omega); omega
  have hat := p_group_at ha.hv (AtOk.base ha.hv (a := 0) (by omega) (by omega))
  have hbt := p_group_at hb.hv (AtOk.base hb.hv (a := 0) (by omega) (by omega))
  rw [(at_zero ha.hv).1] at hat
  rw [(at_zero hb.hv).1] at hbt
  have hV : (Option.bind (m_granule_Valid std ao ap al) fun b26 => bif (!b26) then (some true) else Option.bind (m_granule_Valid std bo bp bl) fun b27 => (some (!b27))) = some false :=
    bB (p_granule_Valid ao ap al (by omega)) (bF (nF ha.hv.back) (bB (p_granule_Valid bo bp bl (by omega)) (congrArg some (nF hb.hv.back))))
  have hlen : ((List.length (gl p (pgF ao ap M F al)) : Nat) : Int) = (p : Int) := by rw [gl_len]
  have hL1 := p_Merge_L1 ha hF hu [] (by simp)
  rw [List.nil_append] at hL1
  by_cases hpq : 5000 < p + q
  · refine .inl ⟨hpq, ?_⟩
    rw [m_group_Merge_eq, hV, hG]
    simp only [Option.bind_some, hu, hv, hpn, hqn]
    refine bF rfl (bF rfl (bB hat (bB hbt (gZ (by omega) (gI (by omega) (gI (by omega) (gI (by simp; omega) (bF (dF (by simp; omega)) (bB hL1 (gI (by omega) (gZ (by omega) (gI (by omega) (gI (by omega) ?_)))))))))))))
    rw [hlen]
    exact gI (by omega) (bT (dT (by omega)) rfl)
  · refine .inr ⟨by omega, sortSp (gl p (pgF ao ap M F al) ++ gl q (pgF bo bp M F bl)), ?_, ?_⟩
    · exact (sortSp_perm _).trans ((ha.perm).append (hb.perm))
    have hL : (sortSp (gl p (pgF ao ap M F al) ++ gl q (pgF bo bp M F bl))).Perm (winL ao ap bo bp F al bl p q) := (sortSp_perm _).trans ((ha.perm).append (hb.perm))
    have hbn : BndL (gl p (pgF ao ap M F al) ++ gl q (pgF bo bp M F bl)) := fun x hx => by
      have h1 := winL_mem ha hb (((ha.perm).append (hb.perm)).mem_iff.1 hx)
      have f1 := ha.f1
      have f2 := ha.f2
      have o2 := ha.hv.o2
      omega
    have hsort := sortSp_sorted hbn
    have hS : m_sortSp std (gl p (pgF ao ap M F al) ++ gl q (pgF bo bp M F bl)) = some (sortSp (gl p (pgF ao ap M F al) ++ gl q (pgF bo bp M F bl))) := by
      rw [m_sortSp_eq, decide_eq_true hbn]
      exact gR (by rw [List.length_append, gl_len, gl_len]; omega) rfl
    obtain ⟨L, hLd⟩ : ∃ L, sortSp (gl p (pgF ao ap M F al) ++ gl q (pgF bo bp M F bl)) = L := ⟨_, rfl⟩
    rw [hLd] at hL hsort hS ⊢
    obtain ⟨hl, hn, hbd⟩ := perm_facts ha hb hL
    have h0 : 0 < L.length := by have := ha.n0; omega
    have hf := hbd L[0] (List.getElem_mem h0)
    rw [list_fr L h0] at hf
    have hf0 : F ≤ fr L 0 ∧ fr L 0 ≤ F + M := hf
    have f1 := ha.f1
    have f2 := ha.f2
    have o2 := ha.hv.o2
    have hL2 := p_Merge_L2 hb hF hv (gl p (pgF ao ap M F al)) (by rw [gl_len]; omega)
    have key : ∀ r, (Option.bind (loop (m_group_Merge_L3 std L M) 0) fun e => match e with | .inl _ => (some (0, 0, ([] : List (Int × Int)), 6)) | .inr (_) => Option.bind (m_group_made std M L) fun (n1, n2, l1, n3) => (some (n1, n2, l1, n3))) = r → m_group_Merge std ao ap bo bp al bl = r := fun r hr => by
      rw [m_group_Merge_eq, hV, hG]
      simp only [Option.bind_some, hu, hv, hpn, hqn]
      refine bF rfl (bF rfl (bB hat (bB hbt (gZ (by omega) (gI (by omega) (gI (by omega) (gI (by simp; omega) (bF (dF (by simp; omega)) (bB hL1 (gI (by omega) (gZ (by omega) (gI (by omega) (gI (by omega) ?_)))))))))))))
      rw [hlen]
      exact gI (by omega) (bF (dF (by omega)) (bB hL2 (gI (by omega) (bB hS hr))))
    rcases p_Merge_L3 (l := L) (M := M) (by omega) (by omega) with ⟨hc, hlp⟩ | ⟨⟨k, hk, hc⟩, hlp⟩
    · obtain ⟨g1, g2⟩ := chk_good hn h0 hc
      exact .inl ⟨g2.perm hL, g1, key _ (bB hlp (bB (p_group_made (perm_PL ha hb (by omega) hL g1 g2)) rfl))⟩
    · refine .inr ⟨fun hg => ?_, key _ (bB hlp rfl)⟩
      have g2 := hg.perm hL.symm
      have g1 := asc_of_sorted hn hsort g2.1
      rw [good_chk h0 g1 g2 k hk] at hc
      cases hc

/-! the reference -/
theorem comP_comm {a b : Int} (ha : 1 ≤ a) (hb : 1 ≤ b) : comP a b = comP b a := by
  obtain ⟨g, g1, hg, g2, g3, e1, e2, q1, q2, c1, c2⟩ := comP_parts ha hb
  obtain ⟨g', g1', hg', g2', g3', e1', e2', q1', q2', c1', c2'⟩ := comP_parts hb ha
  have : g' = g := by rw [← hg, ← hg', Nat.gcd_comm]
  subst this
  rw [c2, c1', Int.mul_comm]
theorem p_ref16_start (ha : Win ao ap M F al u p) : m_ref16_start std ao ap F al = some (inLo ao ap al F) := by
  have h0 := ha.hv.n0
  have h5 := ha.hv.n5
  have o1 := ha.hv.o1
  have o2 := ha.hv.o2
  have p1 := ha.hv.p1
  have p2 := ha.hv.p2
  have f1 := ha.f1
  have f2 := ha.f2
  obtain ⟨b1, b2, b3, b4, b5, b6, b7⟩ := near_q (x := F) ha.hv (by omega) (by omega)
  have n1 := near_bds (x := F - 1) ha.hv (by omega) (by omega)
  have hlo : inLo ao ap al F = nearN ao ap al (F - 1) + 1 := rfl
  have hsm := mul_5000 (q := (F - ao) / ap - 1) h5 (A := 6597069766658) (by omega) (by omega) (by omega)
  obtain ⟨k0, hk0⟩ : ∃ k0, (al.length : Int) * ((F - ao) / ap - 1) = k0 := ⟨_, rfl⟩
  have okA : AtOk ap al k0 := by
    refine ok_q (q := (F - ao) / ap - 1) h0 h5 (by omega) (by omega) ?_ ?_ (by omega) (by rw [← hk0, Int.mul_add]; omega)
    · rw [Int.mul_sub]; omega
    · rw [Int.mul_sub]; omega
  have okB : AtOk ap al (inLo ao ap al F) := by
    have ht := lastTo_lt (l := al) (r := (F - 1 - ao) % ap) al.length h0
    obtain ⟨d1, d2, d3, d4, d5, d6, d7⟩ := near_q (x := F - 1) ha.hv (by omega) (by omega)
    have okC : AtOk ap al ((al.length : Int) * ((F - 1 - ao) / ap + 1)) := by
      refine ok_q (q := (F - 1 - ao) / ap + 1) h0 h5 (by omega) (by omega) ?_ ?_ (Int.le_refl _) (by rw [Int.mul_add (al.length : Int) ((F - 1 - ao) / ap + 1)]; omega)
      · rw [Int.mul_add]; omega
      · rw [Int.mul_add]; omega
    refine AtOk.mid (near_ok (x := F - 1) ha.hv (by omega) (by omega)) okC p1 h0 (by omega) ?_
    unfold inLo nearN
    rw [Int.mul_add]
    omega
  have hkF : atF ao ap al k0 ≤ F - 1 := by
    have e := (at_mk ao ap ((F - ao) / ap - 1) h0).2.2.1
    rw [ha.hv.f0, Int.natCast_zero, Int.add_zero, hk0, Int.mul_sub] at e
    omega
  have hk1 := (near_le ha.hv).1 hkF
  rw [m_ref16_start_eq]
  refine gI (by omega) (bB (p_ref01_Floor _ _ (by omega) (by omega) (by omega) (by omega)) (gI (by omega) (gI (by omega) ?_)))
  rw [hk0]
  have hk0b := hsm
  rw [hk0] at hk0b
  obtain ⟨R, hR⟩ : ∃ R : Nat, (R : Int) = inLo ao ap al F - k0 := ⟨(inLo ao ap al F - k0).toNat, by omega⟩
  have hL := loop_to' (B := m_ref16_start_L1 std ao ap al F) (n := R) (fun i => k0 + (i : Int)) (e := inLo ao ap al F) (by omega) (fun i hi => ?_) ?_
  · rw [Int.natCast_zero, Int.add_zero] at hL
    exact bB hL rfl
  · have hlt := in_lo (s := F) (q := k0 + (i : Int)) ha.hv
    have e1 : k0 + ((i + 1 : Nat) : Int) = k0 + i + 1 := by omega
    rw [m_ref16_start_L1_eq, e1]
    exact bB (p_ref16_Granule ha.hv (AtOk.mid okA okB p1 h0 (by omega) (by omega))) (bT (dT (by omega)) (gI (by omega) rfl))
  · have e1 : k0 + (R : Int) = inLo ao ap al F := by omega
    have hlt := (in_lo (s := F) (q := inLo ao ap al F) ha.hv).2 (Int.le_refl _)
    rw [m_ref16_start_L1_eq, e1]
    exact bB (p_ref16_Granule ha.hv okB) (bF (dF (by omega)) rfl)
theorem Win.ok (ha : Win ao ap M F al u p) {r : Nat} (hr : r ≤ 5000) : AtOk ap al (inLo ao ap al F + r) ∧ -32985348833285000 ≤ inLo ao ap al F + r ∧ inLo ao ap al F + r ≤ 32985348833300000 := by
  have f1 := ha.f1
  have f2 := ha.f2
  have o2 := ha.hv.o2
  have h0 := ha.hv.n0
  have h5 := ha.hv.n5
  have p1 := ha.hv.p1
  have p2 := ha.hv.p2
  have n1 := near_bds (x := F - 1) ha.hv (by omega) (by omega)
  have hlo : inLo ao ap al F = nearN ao ap al (F - 1) + 1 := rfl
  have k1 := near_ok (x := F - 1) ha.hv (by omega) (by omega)
  refine ⟨?_, by omega, by omega⟩
  obtain ⟨d1, d2, d3, d4, d5, d6, d7⟩ := near_q (x := F - 1) ha.hv (by omega) (by omega)
  have ht := lastTo_lt (l := al) (r := (F - 1 - ao) % ap) al.length h0
  have hsm : (al.length : Int) * 5001 ≥ 5001 := by omega
  have hbig : -66000000000000 ≤ ap * 5002 ∧ ap * 5002 ≤ 66000000000000 := by omega
  -- a place some 5001 periods on
  have hq : ((al.length : Int) * ((F - 1 - ao) / ap + 5002)) / (al.length : Int) = (F - 1 - ao) / ap + 5002 := Int.mul_ediv_cancel_left _ (by omega)
  have hm5 := mul_5000 (q := (F - 1 - ao) / ap) h5 (A := 6597069766658) (by omega) (by omega) (by omega)
  have okC : AtOk ap al ((al.length : Int) * ((F - 1 - ao) / ap + 5002)) := by
    refine ⟨?_, ?_, ?_, ?_⟩
    · rw [Int.mul_add]; omega
    · rw [Int.mul_add]; omega
    · rw [hq, Int.mul_add]; omega
    · rw [hq, Int.mul_add]; omega
  refine AtOk.mid k1 okC p1 h0 (by omega) ?_
  rw [hlo]
  unfold nearN
  rw [Int.mul_add]
  omega
/-- under what is asked, no two granules overlap -/
theorem good_all (ha : Win ao ap M F al u p) (hb : Win bo bp M F bl v q) (hg : GoodW M (winL ao ap bo bp F al bl p q)) (x y : Nat) : Dj (inn ao ap al F x) (inn bo bp bl F y) := by
  have hp0 := ha.n0
  have hq0 := hb.n0
  have mx := Nat.mod_lt x hp0
  have my := Nat.mod_lt y hq0
  have ex := ha.nxt (x % p) (x / p)
  have ey := hb.nxt (y % q) (y / q)
  rw [Nat.mod_add_div] at ex ey
  have hx : inn ao ap al F (x % p) ∈ winL ao ap bo bp F al bl p q := List.mem_append.2 (.inl (gl_mem mx))
  have hy : inn bo bp bl F (y % q) ∈ winL ao ap bo bp F al bl p q := List.mem_append.2 (.inr (gl_mem my))
  have m1 := ha.m1
  unfold Dj
  rcases Nat.lt_trichotomy (x / p) (y / q) with h | h | h
  · left
    have h1 := hg.2 _ hx _ hy
    have h2 := Int.mul_le_mul_of_nonneg_left (show ((x / p : Nat) : Int) + 1 ≤ ((y / q : Nat) : Int) by omega) (show 0 ≤ M by omega)
    rw [Int.mul_add] at h2
    omega
  · have h1 : Dj (inn ao ap al F (x % p)) (inn bo bp bl F (y % q)) := (List.pairwise_append.1 hg.1).2.2 _ (gl_mem mx) _ (gl_mem my)
    rw [h] at ex
    unfold Dj at h1
    omega
  · right
    have h1 := hg.2 _ hy _ hx
    have h2 := Int.mul_le_mul_of_nonneg_left (show ((y / q : Nat) : Int) + 1 ≤ ((x / p : Nat) : Int) by omega) (show 0 ≤ M by omega)
    rw [Int.mul_add] at h2
    omega
theorem p_ref_Merge_L1 (ha : Win ao ap M F al u p) (hb : Win bo bp M F bl v q) (hu : Int.tdiv M ap = (u : Int)) (hv : Int.tdiv M bp = (v : Int)) (hpq : p + q ≤ 5000) :
    (¬ GoodW M (winL ao ap bo bp F al bl p q) ∧ loop (m_ref16_Merge_L1 std ao ap al bo bp bl M) (inLo ao ap al F, inLo bo bp bl F, []) = some (.inl ())) ∨
    ∃ L, L.Perm (winL ao ap bo bp F al bl p q) ∧ Asc1 L ∧ loop (m_ref16_Merge_L1 std ao ap al bo bp bl M) (inLo ao ap al F, inLo bo bp bl F, []) = some (.inr L) := by
  have hpn : ((al.length : Nat) : Int) * (u : Int) = (p : Int) := by rw [ha.hn, Int.natCast_mul]
  have hqn : ((bl.length : Nat) : Int) * (v : Int) = (q : Int) := by rw [hb.hn, Int.natCast_mul]
  have hp0 := ha.n0
  have hq0 := hb.n0
  obtain ⟨e, he, hR⟩ := loop_is (B := m_ref16_Merge_L1 std ao ap al bo bp bl M)
    (fun s => ∃ x y : Nat, x + y ≤ p + q ∧ s.1 = inLo ao ap al F + x ∧ s.2.1 = inLo bo bp bl F + y ∧ s.2.2.Perm (gl x (inn ao ap al F) ++ gl y (inn bo bp bl F)) ∧ Asc1 s.2.2 ∧ ∀ z ∈ s.2.2, z.2 ≤ (inn ao ap al F x).1 ∧ z.2 ≤ (inn bo bp bl F y).1)
    (fun s => p + q - s.2.2.length) (fun e => (e = .inl () ∧ ¬ GoodW M (winL ao ap bo bp F al bl p q)) ∨ ∃ L, e = .inr L ∧ L.Perm (winL ao ap bo bp F al bl p q) ∧ Asc1 L)
    (y := (inLo ao ap al F, inLo bo bp bl F, [])) ⟨0, 0, by omega, by simp, by simp, by simp [gl_zero], List.Pairwise.nil, fun z hz => by cases hz⟩ (by simp; omega) (by
    rintro ⟨i, k, L⟩ ⟨x, y, hxy, rfl, rfl, hperm, hasc, hle⟩
    have hlen : L.length = x + y := by rw [hperm.length_eq, List.length_append, gl_len, gl_len]
    obtain ⟨okx, bx1, bx2⟩ := ha.ok (r := x) (by omega)
    obtain ⟨oky, by1, by2⟩ := hb.ok (r := y) (by omega)
    rw [m_ref16_Merge_L1_eq, hu, hv, hpn, hqn]
    by_cases hfin : x + y < p + q
    · have hgx := p_ref16_Granule ha.hv okx
      have hgy := p_ref16_Granule hb.hv oky
      have ltx := at_lt ha.hv (inLo ao ap al F + x)
      have lty := at_lt hb.hv (inLo bo bp bl F + y)
      by_cases hov : atF ao ap al (inLo ao ap al F + x) < atT bo bp bl (inLo bo bp bl F + y) ∧ atF bo bp bl (inLo bo bp bl F + y) < atT ao ap al (inLo ao ap al F + x)
      · refine ⟨.inr (.inl ()), bT (dT (by omega)) (bB hgx (bB hgy (bB (v := true) (bT (dT hov.1) (congrArg some (dT hov.2))) (bT rfl rfl)))), .inl ⟨rfl, fun hg => ?_⟩⟩
        have := good_all ha hb hg x y
        unfold Dj inn at this
        simp only [] at this
        omega
      · have hcond : (bif decide (atF ao ap al (inLo ao ap al F + x) < atT bo bp bl (inLo bo bp bl F + y)) then some (decide (atF bo bp bl (inLo bo bp bl F + y) < atT ao ap al (inLo ao ap al F + x))) else some false) = some false := by
          by_cases h1 : atF ao ap al (inLo ao ap al F + x) < atT bo bp bl (inLo bo bp bl F + y)
          · exact bT (dT h1) (congrArg some (dF fun h2 => hov ⟨h1, h2⟩))
          · exact bF (dF h1) rfl
        have hax : inn ao ap al F (x + 1) = (atF ao ap al (inLo ao ap al F + x + 1), atT ao ap al (inLo ao ap al F + x + 1)) := by
          unfold inn; rw [show inLo ao ap al F + ((x + 1 : Nat) : Int) = inLo ao ap al F + x + 1 by omega]
        have hby : inn bo bp bl F (y + 1) = (atF bo bp bl (inLo bo bp bl F + y + 1), atT bo bp bl (inLo bo bp bl F + y + 1)) := by
          unfold inn; rw [show inLo bo bp bl F + ((y + 1 : Nat) : Int) = inLo bo bp bl F + y + 1 by omega]
        by_cases hlt : atF ao ap al (inLo ao ap al F + x) < atF bo bp bl (inLo bo bp bl F + y)
        · refine ⟨.inl (inLo ao ap al F + x + 1, inLo bo bp bl F + y, L ++ [(atF ao ap al (inLo ao ap al F + x), atT ao ap al (inLo ao ap al F + x))]), bT (dT (by omega)) (bB hgx (bB hgy (bB hcond (bF rfl (bB (bT (dT hlt) (gR (by omega) (gR (by simp) (gI (by omega) rfl)))) rfl))))), ⟨x + 1, y, by omega, by simp only []; omega, rfl, ?_, ?_, ?_⟩, by simp only [List.length_append, List.length_singleton]; omega⟩
          · rw [gl_succ]
            have : (gl x (inn ao ap al F) ++ [inn ao ap al F x] ++ gl y (inn bo bp bl F)).Perm (gl x (inn ao ap al F) ++ gl y (inn bo bp bl F) ++ [inn ao ap al F x]) := by
              rw [List.append_assoc, List.append_assoc]
              exact List.Perm.append_left _ List.perm_append_comm
            exact (hperm.append_right _).trans this.symm
          · refine List.pairwise_append.2 ⟨hasc, List.pairwise_singleton _ _, fun z hz w hw => ?_⟩
            rw [List.mem_singleton.1 hw]
            exact (hle z hz).1
          · intro z hz
            rw [hax]
            rcases List.mem_append.1 hz with hz | hz
            · have := hle z hz
              simp only [inn] at this ⊢
              omega
            · rw [List.mem_singleton.1 hz]
              simp only [inn]
              omega
        · refine ⟨.inl (inLo ao ap al F + x, inLo bo bp bl F + y + 1, L ++ [(atF bo bp bl (inLo bo bp bl F + y), atT bo bp bl (inLo bo bp bl F + y))]), bT (dT (by omega)) (bB hgx (bB hgy (bB hcond (bF rfl (bB (bF (dF hlt) (gR (by omega) (gR (by simp) (gI (by omega) rfl)))) rfl))))), ⟨x, y + 1, by omega, rfl, by simp only []; omega, ?_, ?_, ?_⟩, by simp only [List.length_append, List.length_singleton]; omega⟩
          · rw [gl_succ, ← List.append_assoc]
            exact hperm.append_right _
          · refine List.pairwise_append.2 ⟨hasc, List.pairwise_singleton _ _, fun z hz w hw => ?_⟩
            rw [List.mem_singleton.1 hw]
            exact (hle z hz).2
          · intro z hz
            rw [hby]
            rcases List.mem_append.1 hz with hz | hz
            · have := hle z hz
              simp only [inn] at this ⊢
              omega
            · rw [List.mem_singleton.1 hz]
              simp only [inn]
              omega
    · refine ⟨.inr (.inr L), bF (dF (by omega)) rfl, .inr ⟨L, rfl, ?_, hasc⟩⟩
      have hx : x ≤ p := by
        rcases Nat.lt_or_ge p x with h | h
        · exfalso
          have hin : inn ao ap al F p ∈ L := hperm.mem_iff.2 (List.mem_append.2 (.inl (gl_mem h)))
          have h1 := (hle _ hin).2
          have h2 := hb.in (show y < q by omega)
          have h3 := ha.nxt 0 1
          have h4 := ha.in hp0
          rw [Nat.mul_one, Nat.zero_add] at h3
          omega
        · exact h
      have hy : y ≤ q := by
        rcases Nat.lt_or_ge q y with h | h
        · exfalso
          have hin : inn bo bp bl F q ∈ L := hperm.mem_iff.2 (List.mem_append.2 (.inr (gl_mem h)))
          have h1 := (hle _ hin).1
          have h2 := ha.in (show x < p by omega)
          have h3 := hb.nxt 0 1
          have h4 := hb.in hq0
          rw [Nat.mul_one, Nat.zero_add] at h3
          omega
        · exact h
      have ex : x = p := by omega
      have ey : y = q := by omega
      subst ex; subst ey
      exact hperm)
  rcases hR with ⟨rfl, hg⟩ | ⟨L, rfl, h1, h2⟩
  · exact .inl ⟨hg, he⟩
  · exact .inr ⟨L, h1, h2, he⟩
theorem p_ref16_Merge (ha : Win ao ap M F al u p) (hb : Win bo bp M F bl v q) (hc : comP ap bp = M) (hu : Int.tdiv M ap = (u : Int)) (hv : Int.tdiv M bp = (v : Int)) (hF : mi ao bo = F) :
    (5000 < p + q ∧ m_ref16_Merge std ao ap bo bp al bl = some (0, 0, [], 5)) ∨
    (p + q ≤ 5000 ∧ ((∃ L, L.Perm (winL ao ap bo bp F al bl p q) ∧ GoodW M (winL ao ap bo bp F al bl p q) ∧ Asc1 L ∧ m_ref16_Merge std ao ap bo bp al bl = some (mkR M L)) ∨ (¬ GoodW M (winL ao ap bo bp F al bl p q) ∧ m_ref16_Merge std ao ap bo bp al bl = some (0, 0, [], 6)))) := by
  have ap1 := ha.hv.p1
  have ap2 := ha.hv.p2
  have bp1 := hb.hv.p1
  have bp2 := hb.hv.p2
  have a5 := ha.hv.n5
  have b5 := hb.hv.n5
  have m2 := ha.m2
  have hM0 := ha.m1
  have p5 := ha.n5
  have q5 := hb.n5
  have p0 := ha.n0
  have f1 := ha.f1
  have f2 := ha.f2
  have o2 := ha.hv.o2
  have hG := p_ref16_common ap1 ap2 bp1 bp2
  rw [hc, if_pos m2] at hG
  have hpn : ((al.length : Nat) : Int) * (u : Int) = (p : Int) := by rw [ha.hn, Int.natCast_mul]
  have hqn : ((bl.length : Nat) : Int) * (v : Int) = (q : Int) := by rw [hb.hn, Int.natCast_mul]
  have hul : (u : Int) ≤ p := by rw [← hpn]; have := Int.mul_le_mul_of_nonneg_right (show (1 : Int) ≤ (al.length : Int) by have := ha.hv.n0; omega) (show 0 ≤ (u : Int) by omega); omega
  have hvl : (v : Int) ≤ q := by rw [← hqn]; have := Int.mul_le_mul_of_nonneg_right (show (1 : Int) ≤ (bl.length : Int) by have := hb.hv.n0; omega) (show 0 ≤ (v : Int) by omega); omega
  have hat := p_ref16_Granule ha.hv (AtOk.base ha.hv (a := 0) (by omega) (by omega))
  have hbt := p_ref16_Granule hb.hv (AtOk.base hb.hv (a := 0) (by omega) (by omega))
  rw [(at_zero ha.hv).1] at hat
  rw [(at_zero hb.hv).1] at hbt
  by_cases hpq : 5000 < p + q
  · refine .inl ⟨hpq, ?_⟩
    rw [m_ref16_Merge_eq, hG]
    simp only [Option.bind_some, hu, hv, hpn, hqn]
    exact bF rfl (gZ (by omega) (gI (by omega) (gI (by omega) (gZ (by omega) (gI (by omega) (gI (by omega) (gI (by omega) (bT (dT (by omega)) rfl))))))))
  · have hfrom : (bif decide (bo < ao) then Option.bind (m_ref16_Granule std bo bp 0 bl) fun (n, _) => (some n) else (some ao)) = some F := by
      rw [mi_eq] at hF
      by_cases h : bo < ao
      · rw [if_pos h] at hF; rw [← hF]; exact bT (dT h) (bB hbt rfl)
      · rw [if_neg h] at hF; rw [← hF]; exact bF (dF h) rfl
    have key : ∀ r, (Option.bind (loop (m_ref16_Merge_L1 std ao ap al bo bp bl M) (inLo ao ap al F, inLo bo bp bl F, ([] : List (Int × Int)))) fun e => match e with
        | .inl _ => (some (0, 0, ([] : List (Int × Int)), 6))
        | .inr (l37) =>
          grd (okI .i64 (((((List.length l37) : Nat) : Int) - 1))) <|
          grd (okIdx (((((List.length l37) : Nat) : Int) - 1)) ((List.length l37))) <|
          grd (okKin ((Int.toNat ((((List.length l37) : Nat) : Int) - 1))) ((List.length l37))) <|
          grd (okIdx 0 ((List.length l37))) <|
          grd (okKin ((Int.toNat 0)) ((List.length l37))) <|
          grd (okI .i64 (((List.getD l37 (Int.toNat 0) (0, 0)).1 + M))) <|
          bif (decide (((List.getD l37 (Int.toNat 0) (0, 0)).1 + M) < (List.getD l37 (Int.toNat ((((List.length l37) : Nat) : Int) - 1)) (0, 0)).2)) then
            (some (0, 0, ([] : List (Int × Int)), 6))
          else
            Option.bind (m_ref16_Make std M l37) fun (n1, n2, l1, n3) => (some (n1, n2, l1, n3))) = r → m_ref16_Merge std ao ap bo bp al bl = r := fun r hr => by
      rw [m_ref16_Merge_eq, hG]
      simp only [Option.bind_some, hu, hv, hpn, hqn]
      exact bF rfl (gZ (by omega) (gI (by omega) (gI (by omega) (gZ (by omega) (gI (by omega) (gI (by omega) (gI (by omega) (bF (dF (by omega)) (bB hat (bB hbt (bB hfrom (bB (p_ref16_start ha) (bB (p_ref16_start hb) hr)))))))))))))
    refine .inr ⟨by omega, ?_⟩
    rcases p_ref_Merge_L1 ha hb hu hv (by omega) with ⟨hg, hlp⟩ | ⟨L, hL, hasc, hlp⟩
    · exact .inr ⟨hg, key _ (bB hlp rfl)⟩
    · obtain ⟨hl, hn, hbd⟩ := perm_facts ha hb hL
      have h0 : 0 < L.length := by omega
      have hf := hbd L[0] (List.getElem_mem h0)
      rw [list_fr L h0] at hf
      have hf0 : F ≤ fr L 0 ∧ fr L 0 ≤ F + M := hf
      have e1 : (((L.length : Nat) : Int) - 1).toNat = L.length - 1 := by omega
      by_cases hlast : tt L (L.length - 1) ≤ fr L 0 + M
      · have hg := good_of_asc hn hasc hlast
        refine .inl ⟨L, hL, hg.perm hL, hasc, key _ (bB hlp ?_)⟩
        simp only [Int.toNat_zero, fr_def, tt_def, e1]
        exact gI (by omega) (gX (by omega) (gK (by omega) (gX (by omega) (gK (by omega) (gI (by omega) (bF (dF (by omega)) (bB (p_ref16_Make (perm_PL ha hb (by omega) hL hasc hg)) rfl)))))))
      · refine .inr ⟨fun hg => hlast (good_last h0 (hg.perm hL.symm)), key _ (bB hlp ?_)⟩
        simp only [Int.toNat_zero, fr_def, tt_def, e1]
        exact gI (by omega) (gX (by omega) (gK (by omega) (gX (by omega) (gK (by omega) (gI (by omega) (bT (dT (by omega)) rfl))))))
end
theorem Merge_bad {ao ap bo bp : Int} {al bl : List Sp} (h : validB ao ap al = false ∨ validB bo bp bl = false) (h1 : al.length ≤ 5000) (h2 : bl.length ≤ 5000) : m_group_Merge std ao ap bo bp al bl = some (0, 0, [], 1) := by
  rw [m_group_Merge_eq]
  refine bB (v := true) (bB (p_granule_Valid ao ap al (by omega)) ?_) (bT rfl rfl)
  cases hv : validB ao ap al with
  | false => exact bT rfl rfl
  | true =>
    refine bF rfl (bB (p_granule_Valid bo bp bl (by omega)) ?_)
    rcases h with h | h
    · rw [hv] at h; cases h
    · rw [h]; rfl
theorem Merge_big {ao ap bo bp : Int} {al bl : List Sp} (ha : Vd ao ap al) (hb : Vd bo bp bl) (hM : ¬ comP ap bp ≤ 12622780800) : m_group_Merge std ao ap bo bp al bl = some (0, 0, [], 9) ∧ m_ref16_Merge std ao ap bo bp al bl = some (0, 0, [], 9) := by
  have a5 := ha.n5
  have b5 := hb.n5
  refine ⟨?_, ?_⟩
  · rw [m_group_Merge_eq, p_group_common ha.p1 ha.p2 hb.p1 hb.p2, if_neg hM]
    exact bB (v := false) (bB (p_granule_Valid ao ap al (by omega)) (bF (nF ha.back) (bB (p_granule_Valid bo bp bl (by omega)) (congrArg some (nF hb.back))))) (bF rfl (bB rfl (bT rfl rfl)))
  · rw [m_ref16_Merge_eq, p_ref16_common ha.p1 ha.p2 hb.p1 hb.p2, if_neg hM]
    exact bB rfl (bT rfl rfl)
/-- too many granules -/
theorem Merge_many {ao ap bo bp M F : Int} {al bl : List Sp} {u v : Nat} (ha : Vd ao ap al) (hb : Vd bo bp bl) (hc : comP ap bp = M) (hM : M ≤ 12622780800) (hu1 : 1 ≤ u) (hv1 : 1 ≤ v) (c1 : M = ap * (u : Int)) (c2 : M = bp * (v : Int)) (hu : Int.tdiv M ap = (u : Int)) (hv : Int.tdiv M bp = (v : Int)) (hF : mi ao bo = F)
    (h5 : 5000 < al.length * u + bl.length * v) : m_group_Merge std ao ap bo bp al bl = some (0, 0, [], 5) ∧ m_ref16_Merge std ao ap bo bp al bl = some (0, 0, [], 5) := by
  have ap1 := ha.p1
  have ap2 := ha.p2
  have bp1 := hb.p1
  have bp2 := hb.p2
  have a5 := ha.n5
  have b5 := hb.n5
  have hG := p_group_common ap1 ap2 bp1 bp2
  have hG2 := p_ref16_common ap1 ap2 bp1 bp2
  rw [hc, if_pos hM] at hG hG2
  obtain ⟨p, hp⟩ : ∃ p, al.length * u = p := ⟨_, rfl⟩
  obtain ⟨q, hq⟩ : ∃ q, bl.length * v = q := ⟨_, rfl⟩
  have hpn : ((al.length : Nat) : Int) * (u : Int) = (p : Int) := by rw [← hp, Int.natCast_mul]
  have hqn : ((bl.length : Nat) : Int) * (v : Int) = (q : Int) := by rw [← hq, Int.natCast_mul]
  have hub : (u : Int) ≤ M := by rw [c1]; have := Int.mul_le_mul_of_nonneg_right ap1 (show 0 ≤ (u : Int) by omega); omega
  have hvb : (v : Int) ≤ M := by rw [c2]; have := Int.mul_le_mul_of_nonneg_right bp1 (show 0 ≤ (v : Int) by omega); omega
  have m1 := mul_5000 (q := (u : Int)) a5 (A := 12622780800) (by omega) (by omega) (by omega)
  have m2 := mul_5000 (q := (v : Int)) b5 (A := 12622780800) (by omega) (by omega) (by omega)
  rw [hpn] at m1
  rw [hqn] at m2
  have hV : (Option.bind (m_granule_Valid std ao ap al) fun b26 => bif (!b26) then (some true) else Option.bind (m_granule_Valid std bo bp bl) fun b27 => (some (!b27))) = some false :=
    bB (p_granule_Valid ao ap al (by omega)) (bF (nF ha.back) (bB (p_granule_Valid bo bp bl (by omega)) (congrArg some (nF hb.back))))
  have hat := p_group_at ha (AtOk.base ha (a := 0) (by omega) (by omega))
  have hbt := p_group_at hb (AtOk.base hb (a := 0) (by omega) (by omega))
  rw [(at_zero ha).1] at hat
  rw [(at_zero hb).1] at hbt
  refine ⟨?_, ?_⟩
  · rw [m_group_Merge_eq, hV, hG]
    simp only [Option.bind_some, hu, hv, hpn, hqn]
    by_cases hp5 : 5000 < p
    · exact bF rfl (bF rfl (bB hat (bB hbt (gZ (by omega) (gI (by omega) (gI (by omega) (gI (by simp; omega) (bT (dT (by simp; omega)) rfl))))))))
    · have hFa : F ≤ ao ∧ -2199023255552 ≤ F := by
        have := ha.o1
        have := hb.o1
        rw [← hF, mi_eq]; split <;> omega
      have Wa : Win ao ap M F al u p := ⟨ha, hu1, hp.symm, c1, hM, by omega, hFa.2, hFa.1⟩
      have hL1 := p_Merge_L1 Wa hF hu [] (by simp)
      rw [List.nil_append] at hL1
      have hlen : ((List.length (gl p (pgF ao ap M F al)) : Nat) : Int) = (p : Int) := by rw [gl_len]
      refine bF rfl (bF rfl (bB hat (bB hbt (gZ (by omega) (gI (by omega) (gI (by omega) (gI (by simp; omega) (bF (dF (by simp; omega)) (bB hL1 (gI (by omega) (gZ (by omega) (gI (by omega) (gI (by omega) ?_)))))))))))))
      rw [hlen]
      exact gI (by omega) (bT (dT (by omega)) rfl)
  · rw [m_ref16_Merge_eq, hG2]
    simp only [Option.bind_some, hu, hv, hpn, hqn]
    exact bF rfl (gZ (by omega) (gI (by omega) (gI (by omega) (gZ (by omega) (gI (by omega) (gI (by omega) (gI (by omega) (bT (dT (by omega)) rfl))))))))
/-- one result of both, in either order -/
theorem Merge_both {ao ap bo bp : Int} {al bl : List Sp} (ha : Vd ao ap al) (hb : Vd bo bp bl) : ∃ a b x e, m_group_Merge std ao ap bo bp al bl = some (a, b, x, e) ∧ m_group_Merge std bo bp ao ap bl al = some (a, b, x, e) ∧ m_ref16_Merge std ao ap bo bp al bl = some (a, b, x, e) ∧ m_law16_is std a b e a b e x x = some true := by
  have hcc := comP_comm ha.p1 hb.p1
  by_cases hM : comP ap bp ≤ 12622780800
  · obtain ⟨g, g1, hg, g2, g3, e1, e2, q1, q2, c1, c2⟩ := comP_parts ha.p1 hb.p1
    have hq := com_quo ha.p1 hb.p1
    rw [hg] at hq
    obtain ⟨M, hMd⟩ : ∃ M, comP ap bp = M := ⟨_, rfl⟩
    rw [hMd] at hM c1 c2 hq
    obtain ⟨u, hu⟩ : ∃ u, bp.toNat / g = u := ⟨_, rfl⟩
    obtain ⟨v, hv⟩ : ∃ v, ap.toNat / g = v := ⟨_, rfl⟩
    rw [hu] at c1 q2
    rw [hv] at c2 q1
    rw [hu, hv] at hq
    obtain ⟨F, hF⟩ : ∃ F, mi ao bo = F := ⟨_, rfl⟩
    have hF2 : mi bo ao = F := by rw [← hF, mi_eq, mi_eq]; split <;> split <;> omega
    have hFa : F ≤ ao ∧ F ≤ bo ∧ -2199023255552 ≤ F := by
      have := ha.o1
      have := hb.o1
      rw [← hF, mi_eq]; split <;> omega
    by_cases h5 : 5000 < al.length * u + bl.length * v
    · have h1 := Merge_many ha hb hMd hM q2 q1 c1 (by rw [c2, Int.mul_comm]) hq.2 hq.1 hF h5
      have h2 := Merge_many hb ha (by rw [← hcc]; exact hMd) hM q1 q2 (by rw [c2, Int.mul_comm]) c1 hq.1 hq.2 hF2 (by omega)
      exact ⟨_, _, _, _, h1.1, h2.1, h1.2, is_err (by omega)⟩
    · have Wa : Win ao ap M F al u (al.length * u) := ⟨ha, q2, rfl, c1, hM, by omega, hFa.2.2, hFa.1⟩
      have Wb : Win bo bp M F bl v (bl.length * v) := ⟨hb, q1, rfl, by rw [c2, Int.mul_comm], hM, by omega, hFa.2.2, hFa.2.1⟩
      rcases p_ref16_Merge Wa Wb hMd hq.2 hq.1 hF with ⟨h, _⟩ | ⟨_, hR⟩
      · omega
      rcases p_group_Merge Wa Wb hMd hq.2 hq.1 hF with ⟨h, _⟩ | ⟨_, L1, hL1, hP⟩
      · omega
      rcases p_group_Merge Wb Wa (by rw [← hcc]; exact hMd) hq.1 hq.2 hF2 with ⟨h, _⟩ | ⟨_, L2, hL2, hP2⟩
      · omega
      have hsw : (winL bo bp ao ap F bl al (bl.length * v) (al.length * u)).Perm (winL ao ap bo bp F al bl (al.length * u) (bl.length * v)) := List.perm_append_comm
      rcases hR with ⟨L, hL, hg, hasc, hr⟩ | ⟨hg, hr⟩
      · rcases hP with ⟨_, ha1, hp1⟩ | ⟨hng, _⟩
        · rcases hP2 with ⟨_, ha2, hp2⟩ | ⟨hng, _⟩
          · have hn := (perm_facts Wa Wb hL).2.1
            have e1 : L1 = L := (asc_unique (hL.trans hL1.symm) hn hasc ha1).symm
            have e2 : L2 = L := (asc_unique (hL.trans (hL2.trans hsw).symm) hn hasc ha2).symm
            subst e1
            subst e2
            have hPL := perm_PL Wa Wb (by omega) hL hasc (hg.perm hL.symm)
            exact ⟨_, _, _, _, hp1, hp2, hr, mkR_is hPL⟩
          · exact absurd (hg.perm hsw.symm) hng
        · exact absurd hg hng
      · rcases hP with ⟨hg', _, _⟩ | ⟨_, hp1⟩
        · exact absurd hg' hg
        · rcases hP2 with ⟨hg', _, _⟩ | ⟨_, hp2⟩
          · exact absurd (hg'.perm hsw) hg
          · exact ⟨_, _, _, _, hp1, hp2, hr, is_err (by omega)⟩
  · have h1 := Merge_big ha hb hM
    have h2 := Merge_big hb ha (by rw [← hcc]; exact hM)
    exact ⟨_, _, _, _, h1.1, h2.1, h1.2, is_err (by omega)⟩

theorem pl_GroupMerges (ao ap bo bp : Int) (al bl : List Sp) : m_law16_GroupMerges std ao ap bo bp al bl = some true := by
  rw [m_law16_GroupMerges_eq, awake16, p_law16_great_2]
  refine bB rfl (bF rfl (bB rfl ?_))
  by_cases g1 : 40 < al.length
  · exact bT (by rw [dT g1]; rfl) rfl
  by_cases g2 : 40 < bl.length
  · exact bT (by rw [dT g2]; simp) rfl
  refine bF (by rw [dF g1, dF g2]; rfl) ?_
  have hV1 := p_ref16_Valid ao ap al (by omega)
  have hV2 := p_ref16_Valid bo bp bl (by omega)
  cases hv1 : validB ao ap al with
  | false =>
    rw [hv1] at hV1
    exact bB (v := true) (bB hV1 (bT rfl rfl)) (bT rfl (bB (Merge_bad (.inl hv1) (by omega) (by omega)) (bB is_bad rfl)))
  | true =>
  cases hv2 : validB bo bp bl with
  | false =>
    rw [hv1] at hV1
    rw [hv2] at hV2
    exact bB (v := true) (bB hV1 (bF rfl (bB hV2 rfl))) (bT rfl (bB (Merge_bad (.inr hv2) (by omega) (by omega)) (bB is_bad rfl)))
  | true =>
  rw [hv1] at hV1
  rw [hv2] at hV2
  refine bB (v := false) (bB hV1 (bF rfl (bB hV2 rfl))) (bF rfl ?_)
  have ha := Vd.of hv1
  have hb := Vd.of hv2
  obtain ⟨c, hc⟩ := p_few ha hb
  refine bB hc ?_
  cases c with
  | false => exact bT rfl rfl
  | true =>
  obtain ⟨a, p, x, e, h1, h2, h3, h4⟩ := Merge_both ha hb
  exact bF rfl (bB h1 (bB h2 (bB h3 (bB (v := true) (bB h4 (bT rfl (bB h4 rfl))) rfl))))
end Go.Proofs.Ytoklfjkanipjkaa
