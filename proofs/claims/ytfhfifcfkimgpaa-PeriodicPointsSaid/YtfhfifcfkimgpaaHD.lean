/-
  PeriodicPoints, PeriodicLaws: the plain laws.
-/
import Derived.Test.YtfhfifcfkimgpaaHC
namespace Go.Proofs.Ytfhfifcfkimgpaa
open Go.RowKit
section
theorem has_of {f : Int → Bool} {P e : Int} {l : List Sp} (h : Good2 f P l e) {y : Int} (h1 : -9223372036854775808 ≤ y) (h2 : y ≤ 9223372036854775807) : m_periodic_Has std P y l = some (f y) := by
  rw [p_periodic_Has P y l h1 h2, pvB_t h.v, Bool.true_and, h.mem]
/-- numbers near the ends -/
def Near (n : Nat) (L : List Int) : Prop := L.length ≤ n ∧ ∀ y ∈ L, -17592186044416 ≤ y ∧ y ≤ 17592186044416
theorem p_law13_near_L1 {P x : Int} {l : List Sp} {L0 : List Int} {k : Nat} (v : VP P l) (hl : l.length ≤ 40) (hx1 : -4398046511104 ≤ x) (hx2 : x ≤ 4398046511104) (hk : k ≤ 1000) (h0 : Near k L0) : ∃ L, loop (m_law13_near_L1 std l (x % P) x) (0, L0) = some L ∧ Near (k + 160) L := by
  have p1 := v.p1
  have p2 := v.p2
  have m1 := Int.emod_nonneg x (show P ≠ 0 by omega)
  have m2 := Int.emod_lt_of_pos x (show 0 < P by omega)
  have h := loop_is (B := m_law13_near_L1 std l (x % P) x) (y := (0, L0)) (fun y => ∃ i : Nat, y.1 = (i : Int) ∧ i ≤ l.length ∧ Near (k + 4 * i) y.2) (fun y => l.length - y.1.toNat) (fun L => Near (k + 160) L) ⟨0, rfl, by omega, h0⟩ (by show _ - _ < _; omega) (by
    rintro ⟨z, L⟩ ⟨i, h1, hi, hn⟩
    change z = (i : Int) at h1
    change Near (k + 4 * i) L at hn
    subst h1
    rw [m_law13_near_L1_eq]
    simp only [Int.toNat_natCast, fr_def, tt_def]
    by_cases hlt : i < l.length
    · have ha := v.toStd.at hlt
      refine ⟨_, bT (dT (by omega)) (gX (by omega) (gK hlt (gI (by omega) (gI (by omega) (gI (by omega) (gI (by omega) (gR (by have := hn.1; omega) (gR (by simp) (gI (by omega) rfl))))))))), ⟨i + 1, rfl, hlt, ?_, fun y hy => ?_⟩, by show l.length - ((i : Int) + 1).toNat < l.length - (i : Int).toNat; omega⟩
      · have := hn.1
        simp; omega
      · rcases List.mem_append.1 hy with hy | hy
        · exact hn.2 y hy
        · simp at hy
          rcases hy with rfl | rfl | rfl | rfl <;> omega
    · exact ⟨.inr L, bF (dF (by omega)) rfl, by have := hn.1; omega, hn.2⟩)
  obtain ⟨L, e, hL⟩ := h
  exact ⟨L, e, hL⟩
theorem p_law13_near_L2 {P x : Int} {l : List Sp} {L0 : List Int} {k : Nat} (v : VP P l) (hl : l.length ≤ 40) (hx1 : -4398046511104 ≤ x) (hx2 : x ≤ 4398046511104) (hk : k ≤ 1000) (h0 : Near k L0) : ∃ L, loop (m_law13_near_L2 std l (x % P) x) (0, L0) = some L ∧ Near (k + 160) L := by
  have p1 := v.p1
  have p2 := v.p2
  have m1 := Int.emod_nonneg x (show P ≠ 0 by omega)
  have m2 := Int.emod_lt_of_pos x (show 0 < P by omega)
  have h := loop_is (B := m_law13_near_L2 std l (x % P) x) (y := (0, L0)) (fun y => ∃ i : Nat, y.1 = (i : Int) ∧ i ≤ l.length ∧ Near (k + 4 * i) y.2) (fun y => l.length - y.1.toNat) (fun L => Near (k + 160) L) ⟨0, rfl, by omega, h0⟩ (by show _ - _ < _; omega) (by
    rintro ⟨z, L⟩ ⟨i, h1, hi, hn⟩
    change z = (i : Int) at h1
    change Near (k + 4 * i) L at hn
    subst h1
    rw [m_law13_near_L2_eq]
    simp only [Int.toNat_natCast, fr_def, tt_def]
    by_cases hlt : i < l.length
    · have ha := v.toStd.at hlt
      refine ⟨_, bT (dT (by omega)) (gX (by omega) (gK hlt (gI (by omega) (gI (by omega) (gI (by omega) (gI (by omega) (gR (by have := hn.1; omega) (gR (by simp) (gI (by omega) rfl))))))))), ⟨i + 1, rfl, hlt, ?_, fun y hy => ?_⟩, by show l.length - ((i : Int) + 1).toNat < l.length - (i : Int).toNat; omega⟩
      · have := hn.1
        simp; omega
      · rcases List.mem_append.1 hy with hy | hy
        · exact hn.2 y hy
        · simp at hy
          rcases hy with rfl | rfl | rfl | rfl <;> omega
    · exact ⟨.inr L, bF (dF (by omega)) rfl, by have := hn.1; omega, hn.2⟩)
  obtain ⟨L, e, hL⟩ := h
  exact ⟨L, e, hL⟩
theorem p_law13_near {P Q x : Int} {l l' : List Sp} (va : VP P l) (vb : VP Q l') (hl : l.length ≤ 40) (hl' : l'.length ≤ 40) (hx1 : -4398046511104 ≤ x) (hx2 : x ≤ 4398046511104) : ∃ L, m_law13_near std x P Q l l' = some L ∧ Near 400 L := by
  have p1 := va.p1
  have p2 := va.p2
  have q1 := vb.p1
  have q2 := vb.p2
  have m1 := Int.emod_nonneg x (show P ≠ 0 by omega)
  have m2 := Int.emod_lt_of_pos x (show 0 < P by omega)
  have n1 := Int.emod_nonneg x (show Q ≠ 0 by omega)
  have n2 := Int.emod_lt_of_pos x (show 0 < Q by omega)
  obtain ⟨L1, e1, h1⟩ := p_law13_near_L1 (L0 := [x]) (k := 1) va hl hx1 hx2 (by omega) ⟨by simp, fun y hy => by simp at hy; subst hy; omega⟩
  obtain ⟨L2, e2, h2⟩ := p_law13_near_L2 (L0 := L1) (k := 161) vb hl' hx1 hx2 (by omega) h1
  refine ⟨L2, ?_, by have := h2.1; omega, h2.2⟩
  rw [m_law13_near_eq]
  exact bB (p_integer_Mod _ _ (by omega) (by omega) p1 (by omega)) (gI (by omega) (bB e1 (gI (by omega) (bB (p_integer_Mod _ _ (by omega) (by omega) q1 (by omega)) (gI (by omega) (bB e2 (gI (by omega) rfl)))))))
theorem ans_if {f : Int → Bool} {P e : Int} {l : List Sp} (h : Ans f (P, l, e)) : (e == 0) = false ∨ ((e == 0) = true ∧ Good2 f P l e) := by
  rcases h with h | h | h
  · injection h with _ h; injection h with _ h; exact .inl (eF (by omega))
  · injection h with _ h; injection h with _ h; exact .inl (eF (by omega))
  · exact .inr ⟨eT h.e0, h⟩
theorem has_if {f : Int → Bool} {P e : Int} {l : List Sp} (h : Ans f (P, l, e)) {y : Int} (h1 : -9223372036854775808 ≤ y) (h2 : y ≤ 9223372036854775807) : (e == 0) = false ∨ ((e == 0) = true ∧ m_periodic_Has std P y l = some (f y)) := by
  rcases ans_if h with h | ⟨h, g⟩
  · exact .inl h
  · exact .inr ⟨h, has_of g h1 h2⟩
theorem pl_PeriodicPoints (P Q n x : Int) (l l' : List Sp) : m_law13_PeriodicPoints std P Q n x l l' = some true := by
  rw [m_law13_PeriodicPoints_eq, p_law13_awake, p_law13_long, p_law13_long, p_periodic_Valid, p_periodic_Valid, p_law13_line, p_law13_line]
  by_cases h : 40 < l.length
  · exact bB (v := true) (bB rfl (bF rfl (bB rfl (bT (dT h) rfl)))) (bT rfl rfl)
  · by_cases h' : 40 < l'.length
    · exact bB (v := true) (bB rfl (bF rfl (bB rfl (bF (dF h) (bB rfl (bT (dT h') rfl)))))) (bT rfl rfl)
    · by_cases va : VP P l
      · by_cases vb : VP Q l'
        · by_cases hn : -4398046511104 ≤ n ∧ n ≤ 4398046511104
          · by_cases hx : -4398046511104 ≤ x ∧ x ≤ 4398046511104
            · refine bB (v := false) (bB rfl (bF rfl (bB rfl (bF (dF h) (bB rfl (bF (dF h') (bB rfl (bF (nF (pvB_t va)) (bB rfl (bF (nF (pvB_t vb)) (bB rfl (bF (nF (dT hn)) (bB rfl (congrArg some (nF (dT hx)))))))))))))))) (bF rfl ?_)
              obtain ⟨⟨u1, u2, u3⟩, eu, hu⟩ := p_periodic_Union P Q l l'
              obtain ⟨⟨m1, m2, m3⟩, em, hm⟩ := p_periodic_Meet P Q l l'
              obtain ⟨⟨d1, d2, d3⟩, ed, hd⟩ := p_periodic_Minus P Q l l'
              obtain ⟨⟨c1, c2, c3⟩, ec, hc⟩ := p_periodic_Not P l
              obtain ⟨⟨v1, v2, v3⟩, ev, hv⟩ := p_periodic_Move P n l
              have gu := hu.good va vb
              have gm := hm.good va vb
              have gd := hd.good va vb
              have gc : Good2 (fun x => !psB P l x) c1 c2 c3 := hc.short va (by omega)
              have gv : Good2 (fun x => psB P l (x - n)) v1 v2 v3 := hv.short va hn (by omega)
              obtain ⟨L, eL, hL⟩ := p_law13_near va vb (by omega) (by omega) hx.1 hx.2
              have hll := hL.1
              rw [eu, em, ed, ec, ev, eL]
              refine bB rfl (bB rfl (bB rfl (bB rfl (bB rfl (bB (v := false) (bF (nF (eT gc.e0)) (congrArg some (nF (eT gv.e0)))) (bF rfl (bB rfl (bB (v := .inr ()) ?_ rfl))))))))
              have hloop := loop_to' (B := m_law13_PeriodicPoints_L1 std P l Q l' u2 m2 d2 c2 v2 L u1 u3 m1 m3 d1 d3 c1 v1 n) (n := L.length) (fun i => (i : Int)) (e := .inr ()) (by omega) (fun i hi => by
                obtain ⟨y, hy⟩ : ∃ y, L.getD i 0 = y := ⟨_, rfl⟩
                have hyb : -17592186044416 ≤ y ∧ y ≤ 17592186044416 := by
                  have : L.getD i 0 = L[i] := by simp [List.getD_eq_getElem?_getD, hi]
                  rw [← hy, this]
                  exact hL.2 _ (List.getElem_mem hi)
                have Ha := has_of va.good (y := y) (by omega) (by omega)
                have Hb := has_of vb.good (y := y) (by omega) (by omega)
                have Hu := has_if gu (y := y) (by omega) (by omega)
                have Hm := has_if gm (y := y) (by omega) (by omega)
                have Hd := has_if gd (y := y) (by omega) (by omega)
                have Hc := has_of gc (y := y) (by omega) (by omega)
                have Hv := has_of gv (y := y + n) (by omega) (by omega)
                simp only [Int.add_sub_cancel] at Hv
                rw [m_law13_PeriodicPoints_L1_eq]
                simp only [Int.toNat_natCast, hy]
                obtain ⟨A, hA⟩ : ∃ A, psB P l y = A := ⟨_, rfl⟩
                obtain ⟨B, hB⟩ : ∃ B, psB Q l' y = B := ⟨_, rfl⟩
                simp only [hA, hB] at Ha Hb Hu Hm Hd Hc Hv
                refine bT (dT (by omega)) (gX (by omega) (gK hi (bB Ha (bB Hb (bB (v := (A, false)) ?_ (bF rfl (bB (v := false) (bB Hc (bF (by cases A <;> rfl) (gI (by omega) (bB Hv (by cases A <;> rfl))))) (bF rfl (gI (by omega) rfl)))))))))
                rcases Hu with u0 | ⟨u0, Hu⟩ <;> rcases Hm with m0 | ⟨m0, Hm⟩ <;> rcases Hd with d0 | ⟨d0, Hd⟩
                all_goals simp only [u0, m0, d0, cond_true, cond_false]
                all_goals try simp only [Hu, Option.bind_some]
                all_goals try simp only [Hm, Option.bind_some]
                all_goals try simp only [Hd, Option.bind_some]
                all_goals cases A <;> cases B <;> rfl) (by
                  rw [m_law13_PeriodicPoints_L1_eq]; exact bF (dF (by omega)) rfl)
              exact hloop
            · exact bB (v := true) (bB rfl (bF rfl (bB rfl (bF (dF h) (bB rfl (bF (dF h') (bB rfl (bF (nF (pvB_t va)) (bB rfl (bF (nF (pvB_t vb)) (bB rfl (bF (nF (dT hn)) (bB rfl (congrArg some (nT (dF hx)))))))))))))))) (bT rfl rfl)
          · exact bB (v := true) (bB rfl (bF rfl (bB rfl (bF (dF h) (bB rfl (bF (dF h') (bB rfl (bF (nF (pvB_t va)) (bB rfl (bF (nF (pvB_t vb)) (bB rfl (bT (nT (dF hn)) rfl)))))))))))) (bT rfl rfl)
        · exact bB (v := true) (bB rfl (bF rfl (bB rfl (bF (dF h) (bB rfl (bF (dF h') (bB rfl (bF (nF (pvB_t va)) (bB rfl (bT (nT (pvB_f vb)) rfl)))))))))) (bT rfl rfl)
      · exact bB (v := true) (bB rfl (bF rfl (bB rfl (bF (dF h) (bB rfl (bF (dF h') (bB rfl (bT (nT (pvB_f va)) rfl)))))))) (bT rfl rfl)

/-! the laws of sets -/
theorem com_comm {a b : Int} (ha : 1 ≤ a) (hb : 1 ≤ b) : comP a b = comP b a := by
  obtain ⟨f1, f2, _⟩ := com_facts ha hb
  rw [f2]
  unfold comP comM
  rw [Nat.gcd_comm]
theorem IsComb.comm {Pa Pb : Int} {la lb : List Sp} {r : Int × List Sp × Int} (h : IsComb rOr Pa Pb la lb r) : IsComb rOr Pb Pa lb la r := by
  have hc : cnt Pa Pb la lb = cnt Pb Pa lb la := by unfold cnt comN comM; rw [Nat.gcd_comm, Nat.add_comm]
  rcases h with ⟨a, e⟩ | ⟨a, b, e⟩ | ⟨a, b, c, e⟩ | ⟨a, b, c, l1, e1, e2, e3⟩
  · exact .inl ⟨fun h => a ⟨h.2, h.1⟩, e⟩
  · rw [com_comm a.1.p1 a.2.p1] at b
    exact .inr (.inl ⟨⟨a.2, a.1⟩, b, e⟩)
  · rw [com_comm a.1.p1 a.2.p1] at b
    rw [hc] at c
    exact .inr (.inr (.inl ⟨⟨a.2, a.1⟩, b, c, e⟩))
  · rw [com_comm a.1.p1 a.2.p1] at b e1 e2 e3
    rw [hc] at c
    refine .inr (.inr (.inr ⟨⟨a.2, a.1⟩, b, c, l1, e1, fun x => ?_, e3⟩))
    rw [e2]
    unfold rOr
    rw [Bool.or_comm]
theorem eq_if {f : Int → Bool} {P e Q e' : Int} {l l' : List Sp} (h : Ans f (P, l, e)) (h' : Good2 f Q l' e') : (e == 0) = false ∨ ((e == 0) = true ∧ m_periodic_Equal std P Q l l' = some true) := by
  rcases ans_if h with h | ⟨h, g⟩
  · exact .inl h
  · exact .inr ⟨h, g.equal h'⟩
set_option maxRecDepth 100000 in
theorem cf_000 : m_slices_ContainsFunc_2 std [0, 0, 0] = some false := by kernel_rfl
set_option maxRecDepth 100000 in
theorem cf_005 : m_slices_ContainsFunc_2 std [0, 0, 5] = some true := by kernel_rfl
theorem Ans.congr {f g : Int → Bool} {r : Int × List Sp × Int} (h : Ans f r) (hfg : ∀ x, f x = g x) : Ans g r := h.imp id (.imp id fun h => h.congr hfg)
theorem pl_PeriodicLaws (P Q : Int) (l l' : List Sp) : m_law13_PeriodicLaws std P Q l l' = some true := by
  rw [m_law13_PeriodicLaws_eq, p_law13_awake, p_law13_long, p_law13_long, p_periodic_Valid, p_periodic_Valid]
  by_cases h : 40 < l.length
  · exact bB (v := true) (bB rfl (bF rfl (bB rfl (bT (dT h) rfl)))) (bT rfl rfl)
  · by_cases h' : 40 < l'.length
    · exact bB (v := true) (bB rfl (bF rfl (bB rfl (bF (dF h) (bB rfl (bT (dT h') rfl)))))) (bT rfl rfl)
    · by_cases va : VP P l
      · by_cases vb : VP Q l'
        · refine bB (v := false) (bB rfl (bF rfl (bB rfl (bF (dF h) (bB rfl (bF (dF h') (bB rfl (bF (nF (pvB_t va)) (bB rfl (congrArg some (nF (pvB_t vb)))))))))))) (bF rfl ?_)
          obtain ⟨⟨u1, u2, u3⟩, eu, hu⟩ := p_periodic_Union P Q l l'
          obtain ⟨⟨w1, w2, w3⟩, ew, hw⟩ := p_periodic_Union Q P l' l
          obtain ⟨⟨m1, m2, m3⟩, em, hm⟩ := p_periodic_Meet P Q l l'
          obtain ⟨⟨d1, d2, d3⟩, ed, hd⟩ := p_periodic_Minus P Q l l'
          have huw := hu.uniq hw.comm
          injection huw with e1 e2
          injection e2 with e2 e3
          subst e1; subst e2; subst e3
          rw [eu, ew, em, ed]
          refine bB rfl (bB rfl (bB rfl (bB rfl ?_)))
          rcases ans_if (hu.good va vb) with u0 | ⟨u0, gu⟩
          · refine bB (v := false) (bF (nF (eT rfl)) (bF u0 rfl)) (bF rfl (bB (v := true) (bT (nT u0) rfl) (bT rfl rfl)))
          · refine bB (v := false) (bF (nF (eT rfl)) (bT u0 (bB (p_periodic_Valid _ _) (bF (nF (pvB_t gu.v)) (bB (gu.equal gu) rfl))))) (bF rfl ?_)
            rcases ans_if (hm.good va vb) with m0 | ⟨m0, gm⟩
            · exact bB (v := true) (bF (nF u0) (bT (nT m0) rfl)) (bT rfl rfl)
            · rcases ans_if (hd.good va vb) with d0 | ⟨d0, gd⟩
              · exact bB (v := true) (bF (nF u0) (bF (nF m0) (congrArg some (nT d0)))) (bT rfl rfl)
              · refine bB (v := false) (bF (nF u0) (bF (nF m0) (congrArg some (nF d0)))) (bF rfl ?_)
                obtain ⟨⟨a1, a2, a3⟩, ea, ha⟩ := p_periodic_Not P l
                obtain ⟨⟨b1, b2, b3⟩, eb, hb⟩ := p_periodic_Not Q l'
                obtain ⟨⟨c1, c2, c3⟩, ec, hc⟩ := p_periodic_Not u1 u2
                have ga : Good2 (fun x => !psB P l x) a1 a2 a3 := ha.short va (by omega)
                have gb : Good2 (fun x => !psB Q l' x) b1 b2 b3 := hb.short vb (by omega)
                have a0 := ga.e0
                have b0 := gb.e0
                subst a0; subst b0
                rw [ea, eb, ec]
                refine bB rfl (bB rfl (bB rfl ?_))
                rcases hc.good gu.v with hc5 | gc
                · injection hc5 with q1 q2
                  injection q2 with q2 q3
                  change c3 = 5 at q3
                  subst q3
                  exact bB cf_005 (bT rfl rfl)
                · have gc : Good2 (fun x => !psB u1 u2 x) c1 c2 c3 := gc
                  have c0 := gc.e0
                  subst c0
                  refine bB cf_000 (bF rfl ?_)
                  obtain ⟨⟨s1, s2, s3⟩, es, hs⟩ := p_periodic_Meet a1 b1 a2 b2
                  obtain ⟨⟨t1, t2, t3⟩, et, ht⟩ := p_periodic_Meet P b1 l b2
                  obtain ⟨⟨k1, k2, k3⟩, ek, hk⟩ := p_periodic_Union d1 m1 d2 m2
                  obtain ⟨⟨o1, o2, o3⟩, eo, ho⟩ := p_periodic_Meet P u1 l u2
                  rw [es, et, ek, eo]
                  have r1 := ans_if ((hs.good ga.v gb.v).congr (g := fun x => !psB u1 u2 x) fun x => by
                    rw [ga.mem, gb.mem, gu.mem]; unfold rAnd rOr; cases psB P l x <;> cases psB Q l' x <;> rfl)
                  have r2 := eq_if ((ht.good va gb.v).congr (g := fun x => rSub (psB P l x) (psB Q l' x)) fun x => by
                    rw [gb.mem]; unfold rAnd rSub; rfl) gd
                  have r3 := eq_if ((hk.good gd.v gm.v).congr (g := psB P l) fun x => by
                    rw [gd.mem, gm.mem]; unfold rOr rSub rAnd; cases psB P l x <;> cases psB Q l' x <;> rfl) va.good
                  have r4 := eq_if ((ho.good va gu.v).congr (g := psB P l) fun x => by
                    rw [gu.mem]; unfold rOr rAnd; cases psB P l x <;> cases psB Q l' x <;> rfl) va.good
                  refine bB rfl (bB (v := false) ?_ (bF rfl (bB rfl (bB rfl (bB rfl (bB (v := true) ?_ rfl))))))
                  · rcases r1 with s0 | ⟨s0, gs⟩
                    · exact bF s0 rfl
                    · exact bT s0 (bB (gc.equal gs) rfl)
                  · rcases r2 with x2 | ⟨x2, y2⟩ <;> rcases r3 with x3 | ⟨x3, y3⟩ <;> rcases r4 with x4 | ⟨x4, y4⟩
                    all_goals simp only [x2, x3, x4, cond_true, cond_false, Bool.not_true, Bool.not_false]
                    all_goals try simp only [y2, Option.bind_some, cond_true]
                    all_goals try simp only [y3, Option.bind_some, cond_true]
                    all_goals try simp only [y4, Option.bind_some]
        · exact bB (v := true) (bB rfl (bF rfl (bB rfl (bF (dF h) (bB rfl (bF (dF h') (bB rfl (bF (nF (pvB_t va)) (bB rfl (congrArg some (nT (pvB_f vb)))))))))))) (bT rfl rfl)
      · exact bB (v := true) (bB rfl (bF rfl (bB rfl (bF (dF h) (bB rfl (bF (dF h') (bB rfl (bT (nT (pvB_f va)) rfl)))))))) (bT rfl rfl)
end
end Go.Proofs.Ytfhfifcfkimgpaa
