/-
  GroupKeeps: the plain law.
-/
import Derived.Test.YtebkfbkgmbgobaaK2
namespace Go.Proofs.Ytebkfbkgmbgobaa
open Go.RowKit

/-! a granule that is there -/
theorem p_granule_at {o p k : Int} {l : List Sp} (hv : Vd o p l) (h : AtOk p l k) : m_granule_at std o p k l = some (atF o p l k, atT o p l k) := by
  obtain ⟨k1, k2, b1, b2⟩ := h
  have h0 := hv.n0
  have h5 := hv.n5
  have hh1 := hv.o1
  have hh2 := hv.o2
  have hr := div_bd (a := k) (b := (l.length : Int)) (by omega)
  have hb := hv.bd (k := (k % (l.length : Int)).toNat) (by omega)
  have hp2 := hv.p2
  have he : k - (l.length : Int) * (k / (l.length : Int)) = k % (l.length : Int) := (Int.emod_def k _).symm
  rw [m_granule_at_eq, p_integer_Floor _ _ (by omega) (by omega) (by omega) (by omega)]
  simp only [fr_def, tt_def, Option.bind_some, he]
  exact gI (by omega) (gI (by omega) (gI (by omega) (gI (by omega) (gX (by omega) (gK (by omega) (gI (by omega) (gI (by omega) rfl)))))))
theorem near_at {o p : Int} {l : List Sp} (hv : Vd o p l) (q : Int) : nearN o p l (atF o p l q) = q := by
  have h1 := (near_le (x := atF o p l q) (k := q) hv).1 (Int.le_refl _)
  have h2 := (near_le (x := atF o p l q) (k := q + 1) hv).2
  have h3 := at_lt hv q
  have h4 := (near_le (x := atF o p l q) (k := nearN o p l (atF o p l q)) hv).2 (Int.le_refl _)
  rcases Int.lt_or_le q (nearN o p l (atF o p l q)) with h | h
  · have := at_mono' hv (show q + 1 ≤ nearN o p l (atF o p l q) by omega)
    omega
  · omega
theorem p_Find_at {o p q : Int} {l : List Sp} (hv : Vd o p l) (h : lineB (atF o p l q) = true) : m_granule_Find std o p (atF o p l q) l = some (q, true) := by
  have h5 := hv.n5
  have hx := lineB_iff.1 h
  have hn := p_granule_Near (x := atF o p l q) hv h
  have hk := near_ok (x := atF o p l q) hv hx.1 hx.2
  rw [near_at hv] at hn hk
  rw [m_granule_Find_eq]
  refine bB (v := false) (bB (p_granule_Valid o p l (by omega)) (bF (nF hv.back) (bB (p_granule_line _) (by rw [h]; rfl)))) (bF rfl (bB hn (bB (p_granule_at hv hk) (bF (dF ?_) rfl))))
  have := (at_lt hv q).1
  omega
theorem there_ok {xo xp co cp k : Int} {xl cl : List Sp} (hx : Vd xo xp xl) (hc : Vd co cp cl) (hk1 : -1000 ≤ k) (hk2 : k ≤ 1000) (h : ∃ q, atF xo xp xl k = atF co cp cl q ∧ atT xo xp xl k = atT co cp cl q) :
    m_law16_GroupKeeps_1 std xo xp xl k co cp cl = some true := by
  obtain ⟨q, e1, e2⟩ := h
  have x5 := hx.n5
  have c5 := hc.n5
  rw [m_law16_GroupKeeps_1_eq]
  refine bB (p_granule_Span xo xp k xl (by omega) (by omega) (by omega)) ?_
  cases hon : onB xo xp xl k with
  | false =>
    obtain ⟨d1, d2, d3⟩ := spanE_off hx.back hon
    rw [d1]
    exact bT rfl rfl
  | true =>
    obtain ⟨d1, d2, d3⟩ := spanE_on hx.back hon
    have hon' : onB co cp cl q = true := by unfold onB at hon ⊢; rw [← e1, ← e2]; exact hon
    have hl : lineB (atF co cp cl q) = true := by
      unfold onB at hon'
      cases hh : lineB (atF co cp cl q) with
      | true => rfl
      | false => rw [hh] at hon'; cases hon'
    obtain ⟨f1, f2, f3⟩ := spanE_on hc.back hon'
    have hln := lineB_iff.1 hl
    have hq := near_bds (x := atF co cp cl q) hc hln.1 hln.2
    rw [near_at hc] at hq
    rw [d1, d2, d3, e1, e2]
    refine bF rfl (bB (p_Find_at hc hl) (bB (p_granule_Span co cp q cl (by omega) (by omega) (by omega)) ?_))
    rw [f1, f2, f3]
    refine bB (v := true) (bT rfl (bT rfl ?_)) rfl
    simp

/-! what is made of granules of a calendar has granules of that calendar -/
theorem made_there {co cp M s : Int} {cl L : List Sp} (hc : Vd co cp cl) (h : PL M L) (hM : M = cp * s) (hx : ∀ x ∈ L, ∃ q, x = (atF co cp cl q, atT co cp cl q)) (k : Int) :
    ∃ q, atF (fr L 0) (ofP M L) (ofL M L) k = atF co cp cl q ∧ atT (fr L 0) (ofP M L) (ofL M L) k = atT co cp cl q := by
  obtain ⟨d, r, hr, rfl⟩ := int_parts k h.n0
  obtain ⟨e1, e2⟩ := made_at h ((L.length : Int) * d + r)
  obtain ⟨_, _, e3, e4⟩ := at_mk 0 M d hr
  obtain ⟨q, hq⟩ := hx L[r] (List.getElem_mem hr)
  rw [list_fr L hr] at hq
  injection hq with q1 q2
  have ha := at_add co cp hc.n0 q (s * d)
  have em : cp * (s * d) = M * d := by rw [hM, Int.mul_assoc]
  rw [em] at ha
  exact ⟨q + (cl.length : Int) * (s * d), by rw [e1, e3, ha.1, q1]; omega, by rw [e2, e4, ha.2, q2]; omega⟩

/-! what is restricted, restricted again -/
theorem bel_many {P : Int} {l : List Sp} (h : Pe.Std P l) (x s : Int) : Pe.bel P l (x + P * s) = Pe.bel P l x + Pe.meas l * s :=
  step_int (f := Pe.bel P l) (fun k => Pe.bel_period h k) s x
section
variable {co cp P : Int} {cl l : List Sp}
theorem rs_mem {x : Sp} (h : x ∈ fo (rsN cp P cl) (rsF co cp P cl l)) : ∃ j : Nat, rsB co cp P cl l j = true ∧ x = (atF co cp cl j, atT co cp cl j) := by
  obtain ⟨j, _, hj⟩ := fo_mem h
  unfold rsF at hj
  split at hj
  · injection hj with hj
    exact ⟨j, by assumption, hj.symm⟩
  · cases hj
/-- each granule of the restricted calendar is covered -/
theorem rs_kept (h : RsOk co cp P cl l) {L : List Sp} (hL : fo (rsN cp P cl) (rsF co cp P cl l) = L) (hP : PL (comP cp P) L) (k : Int) :
    Pe.bel P l (atT (fr L 0) (ofP (comP cp P) L) (ofL (comP cp P) L) k) - Pe.bel P l (atF (fr L 0) (ofP (comP cp P) L) (ofL (comP cp P) L) k) = atT (fr L 0) (ofP (comP cp P) L) (ofL (comP cp P) L) k - atF (fr L 0) (ofP (comP cp P) L) (ofL (comP cp P) L) k := by
  obtain ⟨g, g1, hg, g2, g3, d1, d2, q1, q2, c1, c2⟩ := comP_parts h.hc.p1 h.hv.p1
  obtain ⟨d, r, hr, rfl⟩ := int_parts k hP.n0
  obtain ⟨e1, e2⟩ := made_at hP ((L.length : Int) * d + r)
  obtain ⟨_, _, e3, e4⟩ := at_mk 0 (comP cp P) d hr
  have hm : L[r] ∈ fo (rsN cp P cl) (rsF co cp P cl l) := by rw [hL]; exact List.getElem_mem hr
  obtain ⟨j, hj, hx⟩ := rs_mem hm
  rw [list_fr L hr] at hx
  injection hx with x1 x2
  have hj' : Pe.bel P l (atT co cp cl j) - Pe.bel P l (atF co cp cl j) = atT co cp cl j - atF co cp cl j := by
    have := hj
    unfold rsB at this
    exact eq_of_beq this
  have hc2 : comP cp P * d = P * (((cp.toNat / g : Nat) : Int) * d) := by rw [c2, Int.mul_comm ((cp.toNat / g : Nat) : Int) P, Int.mul_assoc]
  rw [e1, e2, e3, e4, x1, x2, Int.zero_add, hc2, bel_many h.hv.toPV.toStd, bel_many h.hv.toPV.toStd]
  omega
theorem Restrict_val (h : RsOk co cp P cl l) : m_group_Restrict std co cp P cl l = some (if (fo (rsN cp P cl) (rsF co cp P cl l)).length = 0 then (0, 0, [], 7) else mkR (comP cp P) (fo (rsN cp P cl) (rsF co cp P cl l))) := by
  have hc := h.hc
  have hv := h.hv
  have c5 := hc.n5
  have cp1 := hc.p1
  have cp2 := hc.p2
  have ip1 := hv.p1
  have ip2 := hv.p2
  have hn5 := h.n5
  have hV : (Option.bind (m_granule_Valid std co cp cl) fun b22 => bif (!b22) then (some true) else Option.bind (m_periodic_Valid std P l) fun b28 => (some (!b28))) = some false := by
    refine bB (p_granule_Valid co cp cl (by omega)) (bF (nF hc.back) (bB (Pe.p_periodic_Valid P l) (congrArg some (nF (Pe.pvB_t hv)))))
  have hu : ((P.toNat / Nat.gcd cp.toNat P.toNat : Nat) : Int) ≤ P := by have := Nat.div_le_self P.toNat (Nat.gcd cp.toNat P.toNat); omega
  have z1 := nn (P.toNat / Nat.gcd cp.toNat P.toNat)
  have hq := (com_quo cp1 ip1).2
  have hn : ((cl.length : Nat) : Int) * ((P.toNat / Nat.gcd cp.toNat P.toNat : Nat) : Int) = ((rsN cp P cl : Nat) : Int) := by unfold rsN; rw [Int.natCast_mul]
  have hG := p_group_common cp1 cp2 ip1 ip2
  rw [if_pos h.hM] at hG
  have hcol := p_collect_Restrict h
  rw [m_group_Restrict_eq, hV, hG]
  simp only [Option.bind_some, hq, hn]
  exact bF rfl (bF rfl (gZ (by omega) (gI (by omega) (gI (by omega) (bF (dF (by omega)) (bB hcol rfl))))))
theorem Restrict_no (hc : Vd co cp cl) (hv : Pe.VP P l) (h : ¬ RsOk co cp P cl l) : ∃ e, e ≠ 0 ∧ m_group_Restrict std co cp P cl l = some (0, 0, [], e) := by
  have c5 := hc.n5
  have cp1 := hc.p1
  have cp2 := hc.p2
  have ip1 := hv.p1
  have ip2 := hv.p2
  have hV : (Option.bind (m_granule_Valid std co cp cl) fun b22 => bif (!b22) then (some true) else Option.bind (m_periodic_Valid std P l) fun b28 => (some (!b28))) = some false := by
    refine bB (p_granule_Valid co cp cl (by omega)) (bF (nF hc.back) (bB (Pe.p_periodic_Valid P l) (congrArg some (nF (Pe.pvB_t hv)))))
  have hu : ((P.toNat / Nat.gcd cp.toNat P.toNat : Nat) : Int) ≤ P := by have := Nat.div_le_self P.toNat (Nat.gcd cp.toNat P.toNat); omega
  have z1 := nn (P.toNat / Nat.gcd cp.toNat P.toNat)
  have hq := (com_quo cp1 ip1).2
  have hn : ((cl.length : Nat) : Int) * ((P.toNat / Nat.gcd cp.toNat P.toNat : Nat) : Int) = ((rsN cp P cl : Nat) : Int) := by unfold rsN; rw [Int.natCast_mul]
  have hG := p_group_common cp1 cp2 ip1 ip2
  by_cases hM : comP cp P ≤ 12622780800
  · have hbig : 5000 < rsN cp P cl := by
      rcases Nat.lt_or_ge 5000 (rsN cp P cl) with g | g
      · exact g
      · exact absurd ⟨hc, hv, hM, g⟩ h
    have hnb := mul_5000 (q := ((P.toNat / Nat.gcd cp.toNat P.toNat : Nat) : Int)) c5 (A := 12622780800) (by omega) (by omega) (by omega)
    rw [if_pos hM] at hG
    refine ⟨5, by omega, ?_⟩
    rw [m_group_Restrict_eq, hV, hG]
    simp only [Option.bind_some, hq, hn]
    exact bF rfl (bF rfl (gZ (by omega) (gI (by omega) (gI (by omega) (bT (dT (by omega)) rfl)))))
  · rw [if_neg hM] at hG
    refine ⟨9, by omega, ?_⟩
    rw [m_group_Restrict_eq, hV, hG]
    exact bB rfl (bF rfl (bB rfl (bT rfl rfl)))
theorem fo_all {f : Nat → Option Sp} {g : Nat → Sp} : ∀ n, (∀ k, k < n → f k = some (g k)) → fo n f = gl n g := by
  intro n
  induction n with
  | zero => intro _; rfl
  | succ n ih =>
    intro h
    rw [fo_succ, gl_succ, ih fun k hk => h k (by omega), h n (by omega)]
    rfl
/-- a calendar all of whose granules are covered is kept as it is -/
theorem Restrict_self (h : RsOk co cp P cl l) (hk : ∀ k : Nat, Pe.bel P l (atT co cp cl k) - Pe.bel P l (atF co cp cl k) = atT co cp cl k - atF co cp cl k) : m_group_Restrict std co cp P cl l = some (co, cp, cl, 0) := by
  obtain ⟨g, g1, hg, g2, g3, d1, d2, q1, q2, c1, c2⟩ := comP_parts h.hc.p1 h.hv.p1
  obtain ⟨F, hF⟩ : ∃ F : Nat → Sp, F = fun k : Nat => (atF co cp cl k, atT co cp cl k) := ⟨_, rfl⟩
  have hfo : fo (rsN cp P cl) (rsF co cp P cl l) = gl (rsN cp P cl) F := fo_all _ fun k _ => by
    have : rsB co cp P cl l k = true := by unfold rsB; exact eT (hk k)
    unfold rsF
    rw [if_pos this, hF]
  have hN : rsN cp P cl = cl.length * (P.toNat / g) := by unfold rsN; rw [hg]
  have hN0 : 0 < rsN cp P cl := by rw [hN]; exact Nat.mul_pos h.hc.n0 (by omega)
  have hPL := h.PL
  rw [Restrict_val h]
  rw [hfo] at hPL ⊢
  rw [gl_len] at hPL ⊢
  rw [if_neg (by omega)]
  refine congrArg some (made_same h.hc (hPL hN0) fun k => ?_)
  obtain ⟨q, r, hr, rfl⟩ := int_parts k hN0
  obtain ⟨e1, e2⟩ := gl_at (F := F) (comP cp P) q hr
  have ha := at_add co cp h.hc.n0 (r : Int) (((P.toNat / g : Nat) : Int) * q)
  have em : cp * (((P.toNat / g : Nat) : Int) * q) = comP cp P * q := by rw [c1, Int.mul_assoc]
  have en : (cl.length : Int) * (((P.toNat / g : Nat) : Int) * q) = ((rsN cp P cl : Nat) : Int) * q := by rw [hN, Int.natCast_mul, Int.mul_assoc]
  rw [em, en, Int.add_comm (r : Int)] at ha
  rw [e1, e2, ha.1, ha.2, hF]
  exact ⟨rfl, rfl⟩
theorem rs_again (h : RsOk co cp P cl l) {L : List Sp} (hL : fo (rsN cp P cl) (rsF co cp P cl l) = L) (hP : PL (comP cp P) L) (hh : halfB (fr L 0) = true) : RsOk (fr L 0) (ofP (comP cp P) L) P (ofL (comP cp P) L) l := by
  obtain ⟨g, g1, hg, g2, g3, d1, d2, q1, q2, c1, c2⟩ := comP_parts h.hc.p1 h.hv.p1
  have hx := mkR_ok hP hh
  have hM := h.hM
  have hM1 := hP.p1
  have hv1 := h.hv.p1
  have hlen := shiftL_len L (fr L 0)
  have h0 := hP.n0
  obtain ⟨m1, m2, m3, _⟩ := leastN_spec (p := comP cp P) (l := shiftL L (fr L 0)) (by omega)
  obtain ⟨q, d, hq1, hq2, hq3, hq4, hq5, _⟩ := rep_spec m3 m1 m2
  have hPd : ofP (comP cp P) L = d := by
    unfold ofP
    have e : ((L.length : Int) / (ofM (comP cp P) L : Int)) = (q : Int) := by rw [← hq5, hlen]; unfold ofM; simp
    rw [e, hq4]
  have hLl : (ofL (comP cp P) L).length = leastN (comP cp P) (shiftL L (fr L 0)) := by unfold ofL ofM; rw [List.length_take]; omega
  have hx1 := hx.p1
  rw [hPd] at hx1
  have hub : P.toNat / Nat.gcd d.toNat P.toNat ∣ q := by
    have e1 : d.toNat * q = (comP cp P).toNat := by
      have : ((d.toNat * q : Nat) : Int) = comP cp P := by rw [Int.natCast_mul, hq3, show ((d.toNat : Nat) : Int) = d by omega, Int.mul_comm]
      omega
    have e2 : P.toNat ∣ (comP cp P).toNat := ⟨cp.toNat / g, by
      have : ((P.toNat * (cp.toNat / g) : Nat) : Int) = comP cp P := by rw [c2, Int.natCast_mul, show ((P.toNat : Nat) : Int) = P by omega, Int.mul_comm]
      omega⟩
    have e3 : Nat.lcm d.toNat P.toNat ∣ (comP cp P).toNat := Nat.lcm_dvd ⟨q, e1.symm⟩ e2
    have e4 : Nat.lcm d.toNat P.toNat = d.toNat * (P.toNat / Nat.gcd d.toNat P.toNat) := by
      unfold Nat.lcm
      exact Nat.mul_div_assoc _ (Nat.gcd_dvd_right _ _)
    rw [e4, ← e1] at e3
    exact Nat.dvd_of_mul_dvd_mul_left (by omega) e3
  have hu := Nat.le_of_dvd (by omega) hub
  refine ⟨hx, h.hv, ?_, ?_⟩
  · have : d * ((P.toNat / Nat.gcd d.toNat P.toNat : Nat) : Int) ≤ d * (q : Int) := Int.mul_le_mul_of_nonneg_left (by omega) (by omega)
    rw [hPd]
    unfold comP
    rw [Int.mul_comm d (q : Int), ← hq3] at this
    omega
  · have h1 : leastN (comP cp P) (shiftL L (fr L 0)) * (P.toNat / Nat.gcd d.toNat P.toNat) ≤ leastN (comP cp P) (shiftL L (fr L 0)) * q := Nat.mul_le_mul_left _ hu
    rw [Nat.mul_comm _ q, ← hq1, hlen] at h1
    have h2 := fo_len (rsN cp P cl) (rsF co cp P cl l)
    rw [hL] at h2
    have h3 := h.n5
    unfold rsN
    rw [hPd, hLl]
    omega
end
section
variable {co cp io ip m : Int} {cl il : List Sp}
theorem p_collect_Inside (h : InOk co cp io ip cl il) : m_group_collect_3 std (comP cp ip) ((inN cp ip il : Nat) : Int) io ip co cp m il cl =
    some (if (fo (inN cp ip il) (inF co cp io ip m cl il)).length = 0 then (0, 0, [], 7) else mkR (comP cp ip) (fo (inN cp ip il) (inF co cp io ip m cl il))) := by
  have h5 := h.n5
  rw [m_group_collect_3_eq]
  refine bB (loop_to' (n := inN cp ip il) (fun i => ((i : Int), fo i (inF co cp io ip m cl il))) (e := fo (inN cp ip il) (inF co cp io ip m cl il)) (by omega) (fun i hi => ?_) ?_) ?_
  · obtain ⟨hk, hs, _⟩ := h.sp hi
    have h1 := p_Inside_1 (m := m) h.hc h.hi hk hs
    have hlen := fo_len i (inF co cp io ip m cl il)
    rw [m_group_collect_3_L1_eq]
    cases hf : inF co cp io ip m cl il i with
    | none =>
      rw [hf] at h1
      exact bT (dT (by omega)) (bB h1 (bB (v := fo (i + 1) (inF co cp io ip m cl il)) (bF rfl (congrArg some (by rw [fo_succ, hf]; simp))) (gI (by omega) rfl)))
    | some x =>
      rw [hf] at h1
      exact bT (dT (by omega)) (bB h1 (bB (v := fo (i + 1) (inF co cp io ip m cl il)) (bT rfl (gR (by omega) (gR (by simp) (congrArg some (by rw [fo_succ, hf]; rfl))))) (gI (by omega) rfl)))
  · rw [m_group_collect_3_L1_eq]; exact bF (dF (by omega)) rfl
  · by_cases h0 : (fo (inN cp ip il) (inF co cp io ip m cl il)).length = 0
    · rw [if_pos h0]; exact bT (eT (by omega)) rfl
    · rw [if_neg h0]; exact bF (eF (by omega)) (bB (p_group_made (h.PL (by omega))) rfl)
theorem Inside_val (hc : Vd co cp cl) (hi : Vd io ip il) (hm : m ≠ 0) :
    (InOk co cp io ip cl il ∧ m_group_Inside std co cp io ip m cl il = some (if (fo (inN cp ip il) (inF co cp io ip m cl il)).length = 0 then (0, 0, [], 7) else mkR (comP cp ip) (fo (inN cp ip il) (inF co cp io ip m cl il)))) ∨
    ∃ e, e ≠ 0 ∧ m_group_Inside std co cp io ip m cl il = some (0, 0, [], e) := by
  have c5 := hc.n5
  have i5 := hi.n5
  have cp1 := hc.p1
  have cp2 := hc.p2
  have ip1 := hi.p1
  have ip2 := hi.p2
  have hV : (Option.bind (m_granule_Valid std co cp cl) fun b80 => bif (!b80) then (some true) else Option.bind (m_granule_Valid std io ip il) fun b81 => bif (!b81) then (some true) else (some (m == 0))) = some false := by
    refine bB (p_granule_Valid co cp cl (by omega)) (bF (nF hc.back) (bB (p_granule_Valid io ip il (by omega)) (bF (nF hi.back) (congrArg some (eF hm)))))
  have hu : ((cp.toNat / Nat.gcd cp.toNat ip.toNat : Nat) : Int) ≤ cp := by have := Nat.div_le_self cp.toNat (Nat.gcd cp.toNat ip.toNat); omega
  have z1 := nn (cp.toNat / Nat.gcd cp.toNat ip.toNat)
  have z2 := nn (ip.toNat / Nat.gcd cp.toNat ip.toNat)
  have hv : ((ip.toNat / Nat.gcd cp.toNat ip.toNat : Nat) : Int) ≤ ip := by have := Nat.div_le_self ip.toNat (Nat.gcd cp.toNat ip.toNat); omega
  have hq := com_quo cp1 ip1
  by_cases hM : comP cp ip ≤ 12622780800
  · have hn : ((il.length : Nat) : Int) * ((cp.toNat / Nat.gcd cp.toNat ip.toNat : Nat) : Int) = ((inN cp ip il : Nat) : Int) := by unfold inN; rw [Int.natCast_mul]
    obtain ⟨w, hw⟩ : ∃ w : Nat, ((cl.length : Nat) : Int) * ((ip.toNat / Nat.gcd cp.toNat ip.toNat : Nat) : Int) = (w : Int) := ⟨cl.length * (ip.toNat / Nat.gcd cp.toNat ip.toNat), by rw [Int.natCast_mul]⟩
    have hnb := mul_5000 (q := ((cp.toNat / Nat.gcd cp.toNat ip.toNat : Nat) : Int)) i5 (A := 12622780800) (by omega) (by omega) (by omega)
    have hwb := mul_5000 (q := ((ip.toNat / Nat.gcd cp.toNat ip.toNat : Nat) : Int)) c5 (A := 12622780800) (by omega) (by omega) (by omega)
    have hG := p_group_common cp1 cp2 ip1 ip2
    rw [if_pos hM] at hG
    by_cases hbig : 5000 < inN cp ip il ∨ 5000 < w
    · refine .inr ⟨5, by omega, ?_⟩
      rw [m_group_Inside_eq, hV, hG]
      simp only [Option.bind_some, hq.1, hq.2, hn, hw]
      refine bF rfl (bF rfl (gZ (by omega) (gI (by omega) (gI (by omega) (bB (v := true) ?_ (bT rfl rfl))))))
      by_cases h1 : 5000 < inN cp ip il
      · exact bT (dT (by omega)) rfl
      · exact bF (dF (by omega)) (gZ (by omega) (gI (by omega) (gI (by omega) (congrArg some (dT (by omega))))))
    · have hok : InOk co cp io ip cl il := ⟨hc, hi, hM, by omega⟩
      have hcol := p_collect_Inside (m := m) hok
      refine .inl ⟨hok, ?_⟩
      rw [m_group_Inside_eq, hV, hG]
      simp only [Option.bind_some, hq.1, hq.2, hn, hw]
      exact bF rfl (bF rfl (gZ (by omega) (gI (by omega) (gI (by omega) (bB (v := false) (bF (dF (by omega)) (gZ (by omega) (gI (by omega) (gI (by omega) (congrArg some (dF (by omega))))))) (bF rfl (bB hcol rfl)))))))
  · refine .inr ⟨9, by omega, ?_⟩
    rw [m_group_Inside_eq, hV, p_group_common cp1 cp2 ip1 ip2, if_neg hM]
    exact bB rfl (bF rfl (bB rfl (bT rfl rfl)))
theorem in_mem {x : Sp} (h : x ∈ fo (inN cp ip il) (inF co cp io ip m cl il)) : ∃ q, x = (atF co cp cl q, atT co cp cl q) := by
  obtain ⟨j, _, hj⟩ := fo_mem h
  unfold inF at hj
  cases hq : inK co cp cl m (atF io ip il j) (atT io ip il j) with
  | none => rw [hq] at hj; cases hj
  | some q =>
    rw [hq] at hj
    injection hj with hj
    exact ⟨q, hj.symm⟩
end
end Go.Proofs.Ytebkfbkgmbgobaa
