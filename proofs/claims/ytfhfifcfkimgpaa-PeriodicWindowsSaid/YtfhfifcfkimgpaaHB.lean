/-
  PeriodicOf, PeriodicValid, PeriodicCombines: the plain laws.
  Periodic sets: what the answers of the operations contain; PeriodicWithin, PeriodicPoints, PeriodicLaws: the plain laws.
  PeriodicPoints, PeriodicLaws: the plain laws.
  Counting, Next: what the models come to; PeriodicCounts, PeriodicNext: the plain laws.
  PeriodicNext: the plain law.
  PeriodicWindows: the plain law.
-/
import Derived.Test.YtfhfifcfkimgpaaHA
namespace Go.Proofs.Ytfhfifcfkimgpaa
open Go.RowKit
section
theorem of_eq (P : Int) (l : List Sp) (hl : l.length ≤ 1000000) : m_periodic_Of std P l = m_ref13_Of std P l := by
  obtain ⟨r, e, h⟩ := p_periodic_Of P l hl
  obtain ⟨r', e', h'⟩ := p_ref13_Of P l hl
  rw [e, e', h.uniq h']
theorem union_eq (Pa Pb : Int) (la lb : List Sp) : m_periodic_Union std Pa Pb la lb = m_ref13_Combine std Pa Pb 0 la lb := by
  obtain ⟨r, e, h⟩ := p_periodic_Union Pa Pb la lb
  obtain ⟨r', e', h'⟩ := p_ref13_Combine 0 Pa Pb la lb
  rw [e, e', h.uniq h']
theorem meet_eq (Pa Pb : Int) (la lb : List Sp) : m_periodic_Meet std Pa Pb la lb = m_ref13_Combine std Pa Pb 1 la lb := by
  obtain ⟨r, e, h⟩ := p_periodic_Meet Pa Pb la lb
  obtain ⟨r', e', h'⟩ := p_ref13_Combine 1 Pa Pb la lb
  rw [e, e', h.uniq h']
theorem minus_eq (Pa Pb : Int) (la lb : List Sp) : m_periodic_Minus std Pa Pb la lb = m_ref13_Combine std Pa Pb 2 la lb := by
  obtain ⟨r, e, h⟩ := p_periodic_Minus Pa Pb la lb
  obtain ⟨r', e', h'⟩ := p_ref13_Combine 2 Pa Pb la lb
  rw [e, e', h.uniq h']
theorem not_eq (P : Int) (l : List Sp) : m_periodic_Not std P l = m_ref13_Not std P l := by
  obtain ⟨r, e, h⟩ := p_periodic_Not P l
  obtain ⟨r', e', h'⟩ := p_ref13_Not P l
  rw [e, e', h.uniq h']
set_option maxRecDepth 100000 in
theorem ref_of_14 : m_ref13_Of std 14 [(0, 2), (7, 9)] = some (7, [(0, 2)], 0) := by kernel_rfl
set_option maxRecDepth 100000 in
theorem ref_comb_6 : m_ref13_Combine std 2 3 0 [(0, 1)] [(0, 1)] = some (6, [(0, 1), (2, 5)], 0) := by kernel_rfl
theorem p_law13_awake : m_law13_awake std = some true := by
  rw [m_law13_awake_eq, of_eq 14 [(0, 2), (7, 9)] (by decide), ref_of_14]
  refine bB rfl (bB (m_law13_set_eq _ _) (bB (m_law13_set_eq _ _) ?_))
  rw [union_eq, ref_comb_6]
  exact bB rfl (bB (v := true) (bT (eT rfl) (bB (m_law13_set_eq _ _) (bB (p_ref13_Equal _ _ _ _ (by decide)) (bT (by decide) (bT (eT rfl) (bB (m_law13_set_eq _ _) (bB (p_ref13_Equal _ _ _ _ (by decide)) (congrArg some (by decide))))))))) rfl)
theorem p_law13_long (P : Int) (l : List Sp) : m_law13_long std P l = some (decide (40 < l.length)) := by
  rw [m_law13_long_eq]
  congr 1
  rw [decide_eq_decide]; omega
theorem eq_self' (l : List Sp) (h : l.length ≤ 1000000) : m_slices_Equal std l l = some true := by rw [p_slices_Equal l l (by omega), dT rfl]

/-- the answers' lists are short -/
theorem IsNF.len {P : Int} {l : List Sp} {r : Int × List Sp × Int} (h : IsNF P l r) : r.2.1.length ≤ 2000 := by
  obtain ⟨d, hb, rfl⟩ := h
  split
  · simp
  · show (cutTo d l).length ≤ 2000; omega
theorem IsOf.len {P : Int} {l : List Sp} {r : Int × List Sp × Int} (h : IsOf P l r) : r.2.1.length ≤ 2000 := by
  unfold IsOf at h
  split at h
  · rw [h]; simp
  · split at h
    · rw [h]; simp
    · obtain ⟨a, a1, a2, _, a4⟩ := h
      exact a4.len
theorem IsComb.len {rl : Bool → Bool → Bool} {Pa Pb : Int} {la lb : List Sp} {r : Int × List Sp × Int} (h : IsComb rl Pa Pb la lb r) : r.2.1.length ≤ 2000 := by
  rcases h with ⟨a, e⟩ | ⟨a, b, e⟩ | ⟨a, b, c, e⟩ | ⟨a, b, c, l1, e1, e2, e3⟩
  · rw [e]; simp
  · rw [e]; simp
  · rw [e]; simp
  · exact e3.len
theorem IsNot.len {P : Int} {l : List Sp} {r : Int × List Sp × Int} (h : IsNot P l r) : r.2.1.length ≤ 2000 := by
  rcases h with ⟨a, e⟩ | ⟨a, l1, e1, e2, _, e3⟩
  · rw [e]; simp
  · exact e3.len
theorem IsMv.len {P n : Int} {l : List Sp} {r : Int × List Sp × Int} (h : IsMv P n l r) : r.2.1.length ≤ 2000 := by
  rcases h with ⟨a, e⟩ | ⟨a, b, e⟩ | ⟨a, b, l1, e1, e2, _, e⟩
  · rw [e]; simp
  · rw [e]; simp
  · rw [e]
    split
    · simp
    · show l1.length ≤ 2000; omega

theorem pl_PeriodicOf (P : Int) (l : List Sp) : m_law13_PeriodicOf std P l = some true := by
  rw [m_law13_PeriodicOf_eq, p_law13_awake]
  by_cases h : 40 < l.length
  · exact bB (v := true) (bB rfl (bF rfl (congrArg some (dT (by omega))))) (bT rfl rfl)
  · refine bB (v := false) (bB rfl (bF rfl (congrArg some (dF (by omega))))) (bF rfl ?_)
    obtain ⟨r, e, hr⟩ := p_periodic_Of P l (by omega)
    have hl := hr.len
    obtain ⟨a, b, c⟩ := r
    have e' := of_eq P l (by omega)
    rw [e] at e'
    rw [e, ← e']
    exact bB rfl (bB rfl (bB (v := true) (bT (eT rfl) (bT (eT rfl) (bB (eq_self' b (by show b.length ≤ _; have : b.length ≤ 2000 := hl; omega)) rfl))) rfl))

theorem bsame (b : Bool) : (b == b) = true := by cases b <;> rfl
theorem pl_PeriodicValid (P Q x : Int) (l l' : List Sp) (hx1 : -9223372036854775808 ≤ x) (hx2 : x ≤ 9223372036854775807) : m_law13_PeriodicValid std P Q x l l' = some true := by
  rw [m_law13_PeriodicValid_eq, p_law13_awake, p_law13_long, p_law13_long]
  by_cases h : 40 < l.length
  · exact bB (v := true) (bB rfl (bF rfl (bB rfl (bT (dT h) rfl)))) (bT rfl rfl)
  · by_cases h' : 40 < l'.length
    · exact bB (v := true) (bB rfl (bF rfl (bB rfl (bF (dF h) (bB rfl (by rw [dT h'])))))) (bT rfl rfl)
    · refine bB (v := false) (bB rfl (bF rfl (bB rfl (bF (dF h) (bB rfl (by rw [dF h'])))))) (bF rfl ?_)
      rw [p_ref13_Valid, p_ref13_Valid, p_periodic_Valid]
      refine bB rfl (bB rfl (bB (v := true) (bB rfl (bT (bsame _) ?_)) rfl))
      rw [p_periodic_Has P x l hx1 hx2, p_periodic_Equal]
      refine bB rfl ?_
      cases hv : pvB P l with
      | true =>
        have v := pvB_iff.1 hv
        have hl := v.n2
        refine bT rfl (bB (p_ref13_Has v.toStd v.p2 v.n2 hx1 hx2) (bT ?_ (bB rfl ?_)))
        · cases psB P l x <;> rfl
        · cases pvB Q l' with
          | true =>
            refine bT rfl (bB (p_ref13_Equal P Q l l' (by omega)) (congrArg some ?_))
            cases ((P == Q) && decide (l = l')) <;> rfl
          | false => rfl
      | false => exact bF rfl (bT rfl (bB rfl rfl))
/-- the law's comparison -/
theorem p_law13_same (p e : Int) (l : List Sp) (h : l.length ≤ 1000000) : m_law13_PeriodicCombines_1 std p e p e l l = some true := by
  rw [m_law13_PeriodicCombines_1_eq]
  exact bB (v := true) (bT (eT rfl) (bT (eT rfl) (bB (eq_self' l h) rfl))) rfl
theorem pl_PeriodicCombines (P Q n : Int) (l l' : List Sp) : m_law13_PeriodicCombines std P Q n l l' = some true := by
  rw [m_law13_PeriodicCombines_eq, p_law13_awake, p_law13_long, p_law13_long]
  by_cases h : 40 < l.length
  · exact bB (v := true) (bB rfl (bF rfl (bB rfl (bT (dT h) rfl)))) (bT rfl rfl)
  · by_cases h' : 40 < l'.length
    · exact bB (v := true) (bB rfl (bF rfl (bB rfl (bF (dF h) (bB rfl (by rw [dT h'])))))) (bT rfl rfl)
    · refine bB (v := false) (bB rfl (bF rfl (bB rfl (bF (dF h) (bB rfl (by rw [dF h'])))))) (bF rfl ?_)
      rw [← union_eq, ← meet_eq, ← minus_eq, ← not_eq]
      obtain ⟨⟨u1, u2, u3⟩, eu, hu⟩ := p_periodic_Union P Q l l'
      obtain ⟨⟨m1, m2, m3⟩, em, hm⟩ := p_periodic_Meet P Q l l'
      obtain ⟨⟨d1, d2, d3⟩, ed, hd⟩ := p_periodic_Minus P Q l l'
      obtain ⟨⟨c1, c2, c3⟩, ec, hc⟩ := p_periodic_Not P l
      obtain ⟨⟨v1, v2, v3⟩, ev, hv⟩ := p_periodic_Move P n l
      have lu : u2.length ≤ 2000 := hu.len
      have lm : m2.length ≤ 2000 := hm.len
      have ld : d2.length ≤ 2000 := hd.len
      have lc : c2.length ≤ 2000 := hc.len
      have lv : v2.length ≤ 2000 := hv.len
      rw [eu, em, ed, ec, ev]
      refine bB rfl (bB rfl (bB (p_law13_same _ _ _ (by omega)) (bF rfl (gI (by omega) (bB rfl (bB rfl (bB (p_law13_same _ _ _ (by omega)) (bF rfl (gI (by omega) (bB rfl (bB rfl (bB (p_law13_same _ _ _ (by omega)) (bF rfl (gI (by omega) (bB rfl (bB rfl (bB rfl ?_)))))))))))))))))
      rcases p_ref13_Move P n l with ⟨⟨w1, w2, w3⟩, ew, hw⟩ | ⟨ew, hw⟩
      · have he := hv.uniq hw
        injection he with he1 he2
        injection he2 with he2 he3
        subst he1; subst he2; subst he3
        rw [ew]
        exact bB (v := .inl (v3, v1, v2)) rfl (bB (v := true) (bB (p_law13_same _ _ _ (by omega)) (bT rfl (bB (p_law13_same _ _ _ (by omega)) rfl))) rfl)
      · have he := hv.uniq hw
        injection he with he1 he2
        injection he2 with he2 he3
        subst he1; subst he2; subst he3
        rw [ew]
        exact bB (v := .inr (0, v1)) rfl (bB (v := true) (bB (p_law13_same _ _ _ (by omega)) (bT rfl (bB (p_law13_same _ _ _ (by omega)) rfl))) rfl)
end
section
/-- a good answer: a valid set with the numbers for which f holds -/
structure Good2 (f : Int → Bool) (P : Int) (l : List Sp) (e : Int) : Prop where
  v : VP P l
  e0 : e = 0
  mem : ∀ x, psB P l x = f x
def Ans (f : Int → Bool) (r : Int × List Sp × Int) : Prop := r = (0, [], 5) ∨ r = (0, [], 9) ∨ Good2 f r.1 r.2.1 r.2.2
theorem psB_eq {P Q : Int} {l l' : List Sp} (h : ∀ x, PS P l x ↔ PS Q l' x) (x : Int) : psB P l x = psB Q l' x := by rw [Bool.eq_iff_iff, psB_iff, psB_iff]; exact h x
theorem IsNF.good {m : Int} {l' : List Sp} {r : Int × List Sp × Int} (h : IsNF m l' r) (hs : Std m l') (hm : m ≤ 12622780800) : r = (0, [], 5) ∨ Good2 (psB m l') r.1 r.2.1 r.2.2 := by
  obtain ⟨d, hb, rfl⟩ := h
  split
  · exact .inl rfl
  · rename_i hn
    have hd : d ≤ m := Int.le_of_dvd (by have := hs.p1; omega) hb.dvd
    exact .inr ⟨⟨norm_PV hs hb, by show d ≤ _; omega, by show (cutTo d l').length ≤ 2000; omega⟩, rfl, psB_eq (norm_PS hs hb)⟩
theorem psB_dvd {P m : Int} {l : List Sp} (h : P ∣ m) (x : Int) : psB P l (x % m) = psB P l x := by
  unfold psB
  rw [Int.emod_emod_of_dvd x h]
theorem IsComb.good {rl : Bool → Bool → Bool} {Pa Pb : Int} {la lb : List Sp} {r : Int × List Sp × Int} (h : IsComb rl Pa Pb la lb r) (va : VP Pa la) (vb : VP Pb lb) : Ans (fun x => rl (psB Pa la x) (psB Pb lb x)) r := by
  rcases h with ⟨a, e⟩ | ⟨a, b, e⟩ | ⟨a, b, c, e⟩ | ⟨a, b, c, l1, e1, e2, e3⟩
  · exact absurd ⟨va, vb⟩ a
  · exact .inr (.inl e)
  · exact .inl e
  · obtain ⟨f1, f2, f3, _⟩ := com_facts va.p1 vb.p1
    rcases e3.good e1 b with h | h
    · exact .inl h
    · refine .inr (.inr ⟨h.v, h.e0, fun x => (h.mem x).trans ?_⟩)
      have h1 := Int.emod_nonneg x (show comP Pa Pb ≠ 0 by omega)
      have h2 := Int.emod_lt_of_pos x (show 0 < comP Pa Pb by omega)
      have ea : psB Pa la (x % comP Pa Pb) = psB Pa la x := psB_dvd ⟨_, f1⟩ x
      have eb : psB Pb lb (x % comP Pa Pb) = psB Pb lb x := psB_dvd ⟨_, f2⟩ x
      rw [← ea, ← eb, Bool.eq_iff_iff]
      show memB l1 (x % comP Pa Pb) = true ↔ _
      rw [memB_iff, e2]
      exact ⟨fun h => h.2.2, fun h => ⟨h1, h2, h⟩⟩
theorem IsNot.good {P : Int} {l : List Sp} {r : Int × List Sp × Int} (h : IsNot P l r) (v : VP P l) : r = (0, [], 5) ∨ Good2 (fun x => !psB P l x) r.1 r.2.1 r.2.2 := by
  rcases h with ⟨a, e⟩ | ⟨a, l1, e1, e2, _, e3⟩
  · exact absurd v a
  · rcases e3.good e1 v.p2 with h | h
    · exact .inl h
    · refine .inr ⟨h.v, h.e0, fun x => (h.mem x).trans ?_⟩
      have p1 := v.p1
      have h1 := Int.emod_nonneg x (show P ≠ 0 by omega)
      have h2 := Int.emod_lt_of_pos x (show 0 < P by omega)
      rw [Bool.eq_iff_iff]
      show memB l1 (x % P) = true ↔ (!memB l (x % P)) = true
      rw [memB_iff, e2, Bool.not_eq_true', memB_false]
      exact ⟨fun h => h.2.2, fun h => ⟨h1, h2, h⟩⟩
theorem IsNot.short {P : Int} {l : List Sp} {r : Int × List Sp × Int} (h : IsNot P l r) (v : VP P l) (hl : l.length ≤ 900) : Good2 (fun x => !psB P l x) r.1 r.2.1 r.2.2 := by
  rcases h.good v with h1 | h1
  · exfalso
    rcases h with ⟨a, e⟩ | ⟨a, l1, e1, e2, e4, d, hb, e3⟩
    · exact absurd v a
    · rw [h1] at e3
      have := cutTo_len d l1
      rw [if_neg (by omega)] at e3
      injection e3 with _ e3
      injection e3 with _ e3
      cases e3
  · exact h1
theorem IsMv.short {P n : Int} {l : List Sp} {r : Int × List Sp × Int} (h : IsMv P n l r) (v : VP P l) (hn : -4398046511104 ≤ n ∧ n ≤ 4398046511104) (hl : l.length ≤ 400) : Good2 (fun x => psB P l (x - n)) r.1 r.2.1 r.2.2 := by
  rcases h with ⟨a, e⟩ | ⟨a, b, e⟩ | ⟨a, b, l1, e1, e2, e4, e⟩
  · exact absurd v a
  · exact absurd hn b
  · rw [if_neg (by omega)] at e
    subst e
    refine ⟨⟨⟨e1, mv_best v.p1 v.best e2⟩, v.p2, by show l1.length ≤ 2000; omega⟩, rfl, psB_eq' fun x => mv_PS v.p1 e2 x⟩
where psB_eq' {P : Int} {l l' : List Sp} {n : Int} (h : ∀ x, PS P l' x ↔ PS P l (x - n)) (x : Int) : psB P l' x = psB P l (x - n) := by rw [Bool.eq_iff_iff, psB_iff, psB_iff]; exact h x
/-- one set, one form -/
theorem Good2.same {f : Int → Bool} {P Q e e' : Int} {l l' : List Sp} (h : Good2 f P l e) (h' : Good2 f Q l' e') : P = Q ∧ l = l' :=
  PV.uniq h.v.toPV h'.v.toPV fun x => by rw [← psB_iff, ← psB_iff, h.mem, h'.mem]
theorem VP.good {P : Int} {l : List Sp} (v : VP P l) : Good2 (psB P l) P l 0 := ⟨v, rfl, fun _ => rfl⟩
theorem Good2.congr {f g : Int → Bool} {P e : Int} {l : List Sp} (h : Good2 f P l e) (hfg : ∀ x, f x = g x) : Good2 g P l e := ⟨h.v, h.e0, fun x => (h.mem x).trans (hfg x)⟩
theorem Good2.equal {f : Int → Bool} {P Q e e' : Int} {l l' : List Sp} (h : Good2 f P l e) (h' : Good2 f Q l' e') : m_periodic_Equal std P Q l l' = some true := by
  obtain ⟨h1, h2⟩ := h.same h'
  subst h1; subst h2
  rw [p_periodic_Equal, pvB_t h.v, dT rfl]
  simp
/-- an empty list: the empty set -/
theorem Good2.empty {f : Int → Bool} {P e : Int} {l : List Sp} (h : Good2 f P l e) : l.length = 0 ↔ ∀ x, f x = false := by
  constructor
  · intro h0 x
    rw [← h.mem, List.eq_nil_of_length_eq_zero h0]; rfl
  · intro h0
    rcases Nat.eq_zero_or_pos l.length with h1 | h1
    · exact h1
    · have a := h.v.toStd.at h1
      have b := h0 (fr l 0)
      have p2 := h.v.p2
      rw [← h.mem] at b
      unfold psB at b
      rw [Int.emod_eq_of_lt a.1 (by omega)] at b
      exact absurd (mem_idx.2 ⟨0, h1, by omega, by omega⟩) (memB_false.1 b)

/-! Within -/
theorem IsComb.bad {rl : Bool → Bool → Bool} {Pa Pb : Int} {la lb : List Sp} {r : Int × List Sp × Int} (h : IsComb rl Pa Pb la lb r) (hv : ¬ (VP Pa la ∧ VP Pb lb)) : r = (0, [], 1) := by
  rcases h with ⟨a, e⟩ | ⟨a, b, e⟩ | ⟨a, b, c, e⟩ | ⟨a, b, c, l1, e1, e2, e3⟩
  · exact e
  · exact absurd a hv
  · exact absurd a hv
  · exact absurd a hv
/-- what Within gives back -/
theorem p_periodic_Within (Pa Pb : Int) (la lb : List Sp) : ∃ (b : Bool) (e : Int), m_periodic_Within std Pa Pb la lb = some (b, e) ∧ (∃ P l, m_periodic_Minus std Pa Pb la lb = some (P, l, e) ∧ b = ((e == 0) && decide (l.length = 0))) ∧
    (VP Pa la → VP Pb lb → e ≠ 0 ∨ (e = 0 ∧ (b = true ↔ ∀ x, rSub (psB Pa la x) (psB Pb lb x) = false))) := by
  obtain ⟨⟨P, l, e⟩, he, hc⟩ := p_periodic_Minus Pa Pb la lb
  refine ⟨(e == 0) && decide (l.length = 0), e, ?_, ⟨P, l, he, rfl⟩, fun va vb => ?_⟩
  · rw [m_periodic_Within_eq, he]
    refine bB rfl (bB (v := (e == 0) && decide (l.length = 0)) ?_ rfl)
    cases e == 0 with
    | false => rfl
    | true =>
      refine bT rfl (congrArg some ?_)
      rw [Bool.true_and]
      by_cases h : l.length = 0
      · rw [dT h]; exact eT (by omega)
      · rw [dF h]; exact eF (by omega)
  · rcases hc.good va vb with h | h | h
    · injection h with _ h; injection h with _ h; exact .inl (by omega)
    · injection h with _ h; injection h with _ h; exact .inl (by omega)
    · have h : Good2 (fun x => rSub (psB Pa la x) (psB Pb lb x)) P l e := h
      refine .inr ⟨h.e0, ?_⟩
      rw [← h.empty, h.e0]
      simp
theorem pl_PeriodicWithin (P Q : Int) (l l' : List Sp) : m_law13_PeriodicWithin std P Q l l' = some true := by
  rw [m_law13_PeriodicWithin_eq, p_law13_awake, p_law13_long, p_law13_long]
  by_cases h : 40 < l.length
  · exact bB (v := true) (bB rfl (bF rfl (bB rfl (bT (dT h) rfl)))) (bT rfl rfl)
  · by_cases h' : 40 < l'.length
    · exact bB (v := true) (bB rfl (bF rfl (bB rfl (bF (dF h) (bB rfl (by rw [dT h'])))))) (bT rfl rfl)
    · refine bB (v := false) (bB rfl (bF rfl (bB rfl (bF (dF h) (bB rfl (by rw [dF h'])))))) (bF rfl ?_)
      obtain ⟨b, e, ew, ⟨Pd, ld, ed, rfl⟩, hg⟩ := p_periodic_Within P Q l l'
      refine bB ew ?_
      rw [ed]
      refine bB rfl ?_
      by_cases e0 : e = 0
      · subst e0
        have hn : (!(((0 : Int) == 0))) = false := rfl
        refine bB (v := (decide (ld.length = 0), false)) (by simp) (bF rfl (bF rfl ?_))
        have hk : (decide (ld.length = 0) == (((List.length ld : Nat) : Int) == 0)) = true := by
          by_cases hz : ld.length = 0
          · rw [dT hz, hz]; rfl
          · rw [dF hz, eF (show ((ld.length : Nat) : Int) ≠ 0 by omega)]; rfl
        refine bF (nF hk) ?_
        have hv : VP P l ∧ VP Q l' := Classical.byContradiction fun hv => by
          obtain ⟨r, er, hc⟩ := p_periodic_Minus P Q l l'
          rw [hc.bad hv, ed] at er
          injection er with er
          injection er with _ er
          injection er with _ er
          cases er
        obtain ⟨va, vb⟩ := hv
        obtain ⟨⟨m1, m2, m3⟩, em, hm⟩ := p_periodic_Meet P Q l l'
        obtain ⟨⟨u1, u2, u3⟩, eu, hu⟩ := p_periodic_Union P Q l l'
        rw [em, eu]
        refine bB rfl (bB rfl ?_)
        have hmg := hm.good va vb
        have hug := hu.good va vb
        by_cases m0 : m3 = 0
        · by_cases u0 : u3 = 0
          · refine bB (v := false) (bF (nF (eT m0)) (congrArg some (nF (eT u0)))) (bF rfl ?_)
            have gm : Good2 (fun x => rAnd (psB P l x) (psB Q l' x)) m1 m2 m3 := by
              rcases hmg with h | h | h
              · injection h with _ h; injection h with _ h; omega
              · injection h with _ h; injection h with _ h; omega
              · exact h
            have gu : Good2 (fun x => rOr (psB P l x) (psB Q l' x)) u1 u2 u3 := by
              rcases hug with h | h | h
              · injection h with _ h; injection h with _ h; omega
              · injection h with _ h; injection h with _ h; omega
              · exact h
            obtain ⟨b1, e1, w1, _, g1⟩ := p_periodic_Within m1 P m2 l
            obtain ⟨b2, e2, w2, _, g2⟩ := p_periodic_Within Q u1 l' u2
            rw [w1, w2]
            have t1 : e1 ≠ 0 ∨ b1 = true := by
              rcases g1 gm.v va with h | ⟨_, h⟩
              · exact .inl h
              · refine .inr (h.2 fun x => ?_)
                rw [gm.mem]
                unfold rSub rAnd
                cases psB P l x <;> cases psB Q l' x <;> rfl
            have t2 : e2 ≠ 0 ∨ b2 = true := by
              rcases g2 vb gu.v with h | ⟨_, h⟩
              · exact .inl h
              · refine .inr (h.2 fun x => ?_)
                rw [gu.mem]
                unfold rSub rOr
                cases psB P l x <;> cases psB Q l' x <;> rfl
            refine bB rfl (bB rfl (bB (v := true) ?_ rfl))
            have hin : (bif (!(e2 == 0)) then (some true) else (some b2) : Option Bool) = some true := by
              rcases t2 with h | h
              · exact bT (nT (eF h)) rfl
              · rw [h]; cases e2 == 0 <;> rfl
            rcases t1 with h | h
            · exact bT (nT (eF h)) hin
            · rw [h]
              cases e1 == 0
              · exact hin
              · exact hin
          · exact bB (v := true) (bF (nF (eT m0)) (congrArg some (nT (eF u0)))) (bT rfl rfl)
        · exact bB (v := true) (bT (nT (eF m0)) rfl) (bT rfl rfl)
      · have hb : ((e == 0) && decide (ld.length = 0)) = false := by rw [eF e0]; rfl
        rw [hb]
        refine bB (v := (false, false)) (bF (by simp) (bT (nT (eF e0)) (bF rfl ?_))) (bF rfl (bT (nT (eF e0)) ?_))
        · rw [eF e0]
        · exact congrArg some (eT rfl)
end
section
theorem has_of {f : Int → Bool} {P e : Int} {l : List Sp} (h : Good2 f P l e) {y : Int} (h1 : -9223372036854775808 ≤ y) (h2 : y ≤ 9223372036854775807) : m_periodic_Has std P y l = some (f y) := by
  rw [p_periodic_Has P y l h1 h2, pvB_t h.v, Bool.true_and, h.mem]
/-- numbers near the ends -/
def Near (n : Nat) (L : List Int) : Prop := L.length ≤ n ∧ ∀ y ∈ L, -17592186044416 ≤ y ∧ y ≤ 17592186044416
theorem p_law13_near_L1 {P x : Int} {l : List Sp} {L0 : List Int} {k : Nat} (v : VP P l) (hl : l.length ≤ 40) (hx1 : -4398046511104 ≤ x) (hx2 : x ≤ 4398046511104) (hk : k ≤ 1000) (h0 : Near k L0) : ∃ L, loop (m_law13_near_L1 std l (x % P) x) (0, L0) = some L ∧ Near (k + 160) L := by
  have p1 := v.p1
  have p2 := v.p2
  have m1 := Int.emod_nonneg x (show P ≠ 0 by omega)
  have m2 := Int.emod_lt_of_pos x (show 0 < P by omega)
  have h := loop_is (B := m_law13_near_L1 std l (x % P) x) (y := (0, L0)) (fun y => ∃ i : Nat, y.1 = (i : Int) ∧ i ≤ l.length ∧ Near (k + 4 * i) y.2) (fun y => l.length - y.1.toNat) (fun L => Near (k + 160) L) ⟨0, rfl, by omega, h0⟩ (by show _ - _ < _; omega) (by
    rintro ⟨z, L⟩ ⟨i, h1, hi, hn⟩
    change z = (i : Int) at h1
    change Near (k + 4 * i) L at hn
    subst h1
    rw [m_law13_near_L1_eq]
    simp only [Int.toNat_natCast, fr_def, tt_def]
    by_cases hlt : i < l.length
    · have ha := v.toStd.at hlt
      refine ⟨_, bT (dT (by omega)) (gX (by omega) (gK hlt (gI (by omega) (gI (by omega) (gI (by omega) (gI (by omega) (gR (by have := hn.1; omega) (gR (by simp) (gI (by omega) rfl))))))))), ⟨i + 1, rfl, hlt, ?_, fun y hy => ?_⟩, by show l.length - ((i : Int) + 1).toNat < l.length - (i : Int).toNat; omega⟩
      · have := hn.1
        simp; omega
      · rcases List.mem_append.1 hy with hy | hy
        · exact hn.2 y hy
        · simp at hy
          rcases hy with rfl | rfl | rfl | rfl <;> omega
    · exact ⟨.inr L, bF (dF (by omega)) rfl, by have := hn.1; omega, hn.2⟩)
  obtain ⟨L, e, hL⟩ := h
  exact ⟨L, e, hL⟩
theorem p_law13_near_L2 {P x : Int} {l : List Sp} {L0 : List Int} {k : Nat} (v : VP P l) (hl : l.length ≤ 40) (hx1 : -4398046511104 ≤ x) (hx2 : x ≤ 4398046511104) (hk : k ≤ 1000) (h0 : Near k L0) : ∃ L, loop (m_law13_near_L2 std l (x % P) x) (0, L0) = some L ∧ Near (k + 160) L := by
  have p1 := v.p1
  have p2 := v.p2
  have m1 := Int.emod_nonneg x (show P ≠ 0 by omega)
  have m2 := Int.emod_lt_of_pos x (show 0 < P by omega)
  have h := loop_is (B := m_law13_near_L2 std l (x % P) x) (y := (0, L0)) (fun y => ∃ i : Nat, y.1 = (i : Int) ∧ i ≤ l.length ∧ Near (k + 4 * i) y.2) (fun y => l.length - y.1.toNat) (fun L => Near (k + 160) L) ⟨0, rfl, by omega, h0⟩ (by show _ - _ < _; omega) (by
    rintro ⟨z, L⟩ ⟨i, h1, hi, hn⟩
    change z = (i : Int) at h1
    change Near (k + 4 * i) L at hn
    subst h1
    rw [m_law13_near_L2_eq]
    simp only [Int.toNat_natCast, fr_def, tt_def]
    by_cases hlt : i < l.length
    · have ha := v.toStd.at hlt
      refine ⟨_, bT (dT (by omega)) (gX (by omega) (gK hlt (gI (by omega) (gI (by omega) (gI (by omega) (gI (by omega) (gR (by have := hn.1; omega) (gR (by simp) (gI (by omega) rfl))))))))), ⟨i + 1, rfl, hlt, ?_, fun y hy => ?_⟩, by show l.length - ((i : Int) + 1).toNat < l.length - (i : Int).toNat; omega⟩
      · have := hn.1
        simp; omega
      · rcases List.mem_append.1 hy with hy | hy
        · exact hn.2 y hy
        · simp at hy
          rcases hy with rfl | rfl | rfl | rfl <;> omega
    · exact ⟨.inr L, bF (dF (by omega)) rfl, by have := hn.1; omega, hn.2⟩)
  obtain ⟨L, e, hL⟩ := h
  exact ⟨L, e, hL⟩
theorem p_law13_near {P Q x : Int} {l l' : List Sp} (va : VP P l) (vb : VP Q l') (hl : l.length ≤ 40) (hl' : l'.length ≤ 40) (hx1 : -4398046511104 ≤ x) (hx2 : x ≤ 4398046511104) : ∃ L, m_law13_near std x P Q l l' = some L ∧ Near 400 L := by
  have p1 := va.p1
  have p2 := va.p2
  have q1 := vb.p1
  have q2 := vb.p2
  have m1 := Int.emod_nonneg x (show P ≠ 0 by omega)
  have m2 := Int.emod_lt_of_pos x (show 0 < P by omega)
  have n1 := Int.emod_nonneg x (show Q ≠ 0 by omega)
  have n2 := Int.emod_lt_of_pos x (show 0 < Q by omega)
  obtain ⟨L1, e1, h1⟩ := p_law13_near_L1 (L0 := [x]) (k := 1) va hl hx1 hx2 (by omega) ⟨by simp, fun y hy => by simp at hy; subst hy; omega⟩
  obtain ⟨L2, e2, h2⟩ := p_law13_near_L2 (L0 := L1) (k := 161) vb hl' hx1 hx2 (by omega) h1
  refine ⟨L2, ?_, by have := h2.1; omega, h2.2⟩
  rw [m_law13_near_eq]
  exact bB (p_integer_Mod _ _ (by omega) (by omega) p1 (by omega)) (gI (by omega) (bB e1 (gI (by omega) (bB (p_integer_Mod _ _ (by omega) (by omega) q1 (by omega)) (gI (by omega) (bB e2 (gI (by omega) rfl)))))))
theorem ans_if {f : Int → Bool} {P e : Int} {l : List Sp} (h : Ans f (P, l, e)) : (e == 0) = false ∨ ((e == 0) = true ∧ Good2 f P l e) := by
  rcases h with h | h | h
  · injection h with _ h; injection h with _ h; exact .inl (eF (by omega))
  · injection h with _ h; injection h with _ h; exact .inl (eF (by omega))
  · exact .inr ⟨eT h.e0, h⟩
theorem has_if {f : Int → Bool} {P e : Int} {l : List Sp} (h : Ans f (P, l, e)) {y : Int} (h1 : -9223372036854775808 ≤ y) (h2 : y ≤ 9223372036854775807) : (e == 0) = false ∨ ((e == 0) = true ∧ m_periodic_Has std P y l = some (f y)) := by
  rcases ans_if h with h | ⟨h, g⟩
  · exact .inl h
  · exact .inr ⟨h, has_of g h1 h2⟩
theorem pl_PeriodicPoints (P Q n x : Int) (l l' : List Sp) : m_law13_PeriodicPoints std P Q n x l l' = some true := by
  rw [m_law13_PeriodicPoints_eq, p_law13_awake, p_law13_long, p_law13_long, p_periodic_Valid, p_periodic_Valid, p_law13_line, p_law13_line]
  by_cases h : 40 < l.length
  · exact bB (v := true) (bB rfl (bF rfl (bB rfl (bT (dT h) rfl)))) (bT rfl rfl)
  · by_cases h' : 40 < l'.length
    · exact bB (v := true) (bB rfl (bF rfl (bB rfl (bF (dF h) (bB rfl (bT (dT h') rfl)))))) (bT rfl rfl)
    · by_cases va : VP P l
      · by_cases vb : VP Q l'
        · by_cases hn : -4398046511104 ≤ n ∧ n ≤ 4398046511104
          · by_cases hx : -4398046511104 ≤ x ∧ x ≤ 4398046511104
            · refine bB (v := false) (bB rfl (bF rfl (bB rfl (bF (dF h) (bB rfl (bF (dF h') (bB rfl (bF (nF (pvB_t va)) (bB rfl (bF (nF (pvB_t vb)) (bB rfl (bF (nF (dT hn)) (bB rfl (congrArg some (nF (dT hx)))))))))))))))) (bF rfl ?_)
              obtain ⟨⟨u1, u2, u3⟩, eu, hu⟩ := p_periodic_Union P Q l l'
              obtain ⟨⟨m1, m2, m3⟩, em, hm⟩ := p_periodic_Meet P Q l l'
              obtain ⟨⟨d1, d2, d3⟩, ed, hd⟩ := p_periodic_Minus P Q l l'
              obtain ⟨⟨c1, c2, c3⟩, ec, hc⟩ := p_periodic_Not P l
              obtain ⟨⟨v1, v2, v3⟩, ev, hv⟩ := p_periodic_Move P n l
              have gu := hu.good va vb
              have gm := hm.good va vb
              have gd := hd.good va vb
              have gc : Good2 (fun x => !psB P l x) c1 c2 c3 := hc.short va (by omega)
              have gv : Good2 (fun x => psB P l (x - n)) v1 v2 v3 := hv.short va hn (by omega)
              obtain ⟨L, eL, hL⟩ := p_law13_near va vb (by omega) (by omega) hx.1 hx.2
              have hll := hL.1
              rw [eu, em, ed, ec, ev, eL]
              refine bB rfl (bB rfl (bB rfl (bB rfl (bB rfl (bB (v := false) (bF (nF (eT gc.e0)) (congrArg some (nF (eT gv.e0)))) (bF rfl (bB rfl (bB (v := .inr ()) ?_ rfl))))))))
              have hloop := loop_to' (B := m_law13_PeriodicPoints_L1 std P l Q l' u2 m2 d2 c2 v2 L u1 u3 m1 m3 d1 d3 c1 v1 n) (n := L.length) (fun i => (i : Int)) (e := .inr ()) (by omega) (fun i hi => by
                obtain ⟨y, hy⟩ : ∃ y, L.getD i 0 = y := ⟨_, rfl⟩
                have hyb : -17592186044416 ≤ y ∧ y ≤ 17592186044416 := by
                  have : L.getD i 0 = L[i] := by simp [List.getD_eq_getElem?_getD, hi]
                  rw [← hy, this]
                  exact hL.2 _ (List.getElem_mem hi)
                have Ha := has_of va.good (y := y) (by omega) (by omega)
                have Hb := has_of vb.good (y := y) (by omega) (by omega)
                have Hu := has_if gu (y := y) (by omega) (by omega)
                have Hm := has_if gm (y := y) (by omega) (by omega)
                have Hd := has_if gd (y := y) (by omega) (by omega)
                have Hc := has_of gc (y := y) (by omega) (by omega)
                have Hv := has_of gv (y := y + n) (by omega) (by omega)
                simp only [Int.add_sub_cancel] at Hv
                rw [m_law13_PeriodicPoints_L1_eq]
                simp only [Int.toNat_natCast, hy]
                obtain ⟨A, hA⟩ : ∃ A, psB P l y = A := ⟨_, rfl⟩
                obtain ⟨B, hB⟩ : ∃ B, psB Q l' y = B := ⟨_, rfl⟩
                simp only [hA, hB] at Ha Hb Hu Hm Hd Hc Hv
                refine bT (dT (by omega)) (gX (by omega) (gK hi (bB Ha (bB Hb (bB (v := (A, false)) ?_ (bF rfl (bB (v := false) (bB Hc (bF (by cases A <;> rfl) (gI (by omega) (bB Hv (by cases A <;> rfl))))) (bF rfl (gI (by omega) rfl)))))))))
                rcases Hu with u0 | ⟨u0, Hu⟩ <;> rcases Hm with m0 | ⟨m0, Hm⟩ <;> rcases Hd with d0 | ⟨d0, Hd⟩
                all_goals simp only [u0, m0, d0, cond_true, cond_false]
                all_goals try simp only [Hu, Option.bind_some]
                all_goals try simp only [Hm, Option.bind_some]
                all_goals try simp only [Hd, Option.bind_some]
                all_goals cases A <;> cases B <;> rfl) (by
                  rw [m_law13_PeriodicPoints_L1_eq]; exact bF (dF (by omega)) rfl)
              exact hloop
            · exact bB (v := true) (bB rfl (bF rfl (bB rfl (bF (dF h) (bB rfl (bF (dF h') (bB rfl (bF (nF (pvB_t va)) (bB rfl (bF (nF (pvB_t vb)) (bB rfl (bF (nF (dT hn)) (bB rfl (congrArg some (nT (dF hx)))))))))))))))) (bT rfl rfl)
          · exact bB (v := true) (bB rfl (bF rfl (bB rfl (bF (dF h) (bB rfl (bF (dF h') (bB rfl (bF (nF (pvB_t va)) (bB rfl (bF (nF (pvB_t vb)) (bB rfl (bT (nT (dF hn)) rfl)))))))))))) (bT rfl rfl)
        · exact bB (v := true) (bB rfl (bF rfl (bB rfl (bF (dF h) (bB rfl (bF (dF h') (bB rfl (bF (nF (pvB_t va)) (bB rfl (bT (nT (pvB_f vb)) rfl)))))))))) (bT rfl rfl)
      · exact bB (v := true) (bB rfl (bF rfl (bB rfl (bF (dF h) (bB rfl (bF (dF h') (bB rfl (bT (nT (pvB_f va)) rfl)))))))) (bT rfl rfl)

/-! the laws of sets -/
theorem com_comm {a b : Int} (ha : 1 ≤ a) (hb : 1 ≤ b) : comP a b = comP b a := by
  obtain ⟨f1, f2, _⟩ := com_facts ha hb
  rw [f2]
  unfold comP comM
  rw [Nat.gcd_comm]
theorem IsComb.comm {Pa Pb : Int} {la lb : List Sp} {r : Int × List Sp × Int} (h : IsComb rOr Pa Pb la lb r) : IsComb rOr Pb Pa lb la r := by
  have hc : cnt Pa Pb la lb = cnt Pb Pa lb la := by unfold cnt comN comM; rw [Nat.gcd_comm, Nat.add_comm]
  rcases h with ⟨a, e⟩ | ⟨a, b, e⟩ | ⟨a, b, c, e⟩ | ⟨a, b, c, l1, e1, e2, e3⟩
  · exact .inl ⟨fun h => a ⟨h.2, h.1⟩, e⟩
  · rw [com_comm a.1.p1 a.2.p1] at b
    exact .inr (.inl ⟨⟨a.2, a.1⟩, b, e⟩)
  · rw [com_comm a.1.p1 a.2.p1] at b
    rw [hc] at c
    exact .inr (.inr (.inl ⟨⟨a.2, a.1⟩, b, c, e⟩))
  · rw [com_comm a.1.p1 a.2.p1] at b e1 e2 e3
    rw [hc] at c
    refine .inr (.inr (.inr ⟨⟨a.2, a.1⟩, b, c, l1, e1, fun x => ?_, e3⟩))
    rw [e2]
    unfold rOr
    rw [Bool.or_comm]
theorem eq_if {f : Int → Bool} {P e Q e' : Int} {l l' : List Sp} (h : Ans f (P, l, e)) (h' : Good2 f Q l' e') : (e == 0) = false ∨ ((e == 0) = true ∧ m_periodic_Equal std P Q l l' = some true) := by
  rcases ans_if h with h | ⟨h, g⟩
  · exact .inl h
  · exact .inr ⟨h, g.equal h'⟩
set_option maxRecDepth 100000 in
theorem cf_000 : m_slices_ContainsFunc_2 std [0, 0, 0] = some false := by kernel_rfl
set_option maxRecDepth 100000 in
theorem cf_005 : m_slices_ContainsFunc_2 std [0, 0, 5] = some true := by kernel_rfl
theorem Ans.congr {f g : Int → Bool} {r : Int × List Sp × Int} (h : Ans f r) (hfg : ∀ x, f x = g x) : Ans g r := h.imp id (.imp id fun h => h.congr hfg)
theorem pl_PeriodicLaws (P Q : Int) (l l' : List Sp) : m_law13_PeriodicLaws std P Q l l' = some true := by
  rw [m_law13_PeriodicLaws_eq, p_law13_awake, p_law13_long, p_law13_long, p_periodic_Valid, p_periodic_Valid]
  by_cases h : 40 < l.length
  · exact bB (v := true) (bB rfl (bF rfl (bB rfl (bT (dT h) rfl)))) (bT rfl rfl)
  · by_cases h' : 40 < l'.length
    · exact bB (v := true) (bB rfl (bF rfl (bB rfl (bF (dF h) (bB rfl (bT (dT h') rfl)))))) (bT rfl rfl)
    · by_cases va : VP P l
      · by_cases vb : VP Q l'
        · refine bB (v := false) (bB rfl (bF rfl (bB rfl (bF (dF h) (bB rfl (bF (dF h') (bB rfl (bF (nF (pvB_t va)) (bB rfl (congrArg some (nF (pvB_t vb)))))))))))) (bF rfl ?_)
          obtain ⟨⟨u1, u2, u3⟩, eu, hu⟩ := p_periodic_Union P Q l l'
          obtain ⟨⟨w1, w2, w3⟩, ew, hw⟩ := p_periodic_Union Q P l' l
          obtain ⟨⟨m1, m2, m3⟩, em, hm⟩ := p_periodic_Meet P Q l l'
          obtain ⟨⟨d1, d2, d3⟩, ed, hd⟩ := p_periodic_Minus P Q l l'
          have huw := hu.uniq hw.comm
          injection huw with e1 e2
          injection e2 with e2 e3
          subst e1; subst e2; subst e3
          rw [eu, ew, em, ed]
          refine bB rfl (bB rfl (bB rfl (bB rfl ?_)))
          rcases ans_if (hu.good va vb) with u0 | ⟨u0, gu⟩
          · refine bB (v := false) (bF (nF (eT rfl)) (bF u0 rfl)) (bF rfl (bB (v := true) (bT (nT u0) rfl) (bT rfl rfl)))
          · refine bB (v := false) (bF (nF (eT rfl)) (bT u0 (bB (p_periodic_Valid _ _) (bF (nF (pvB_t gu.v)) (bB (gu.equal gu) rfl))))) (bF rfl ?_)
            rcases ans_if (hm.good va vb) with m0 | ⟨m0, gm⟩
            · exact bB (v := true) (bF (nF u0) (bT (nT m0) rfl)) (bT rfl rfl)
            · rcases ans_if (hd.good va vb) with d0 | ⟨d0, gd⟩
              · exact bB (v := true) (bF (nF u0) (bF (nF m0) (congrArg some (nT d0)))) (bT rfl rfl)
              · refine bB (v := false) (bF (nF u0) (bF (nF m0) (congrArg some (nF d0)))) (bF rfl ?_)
                obtain ⟨⟨a1, a2, a3⟩, ea, ha⟩ := p_periodic_Not P l
                obtain ⟨⟨b1, b2, b3⟩, eb, hb⟩ := p_periodic_Not Q l'
                obtain ⟨⟨c1, c2, c3⟩, ec, hc⟩ := p_periodic_Not u1 u2
                have ga : Good2 (fun x => !psB P l x) a1 a2 a3 := ha.short va (by omega)
                have gb : Good2 (fun x => !psB Q l' x) b1 b2 b3 := hb.short vb (by omega)
                have a0 := ga.e0
                have b0 := gb.e0
                subst a0; subst b0
                rw [ea, eb, ec]
                refine bB rfl (bB rfl (bB rfl ?_))
                rcases hc.good gu.v with hc5 | gc
                · injection hc5 with q1 q2
                  injection q2 with q2 q3
                  change c3 = 5 at q3
                  subst q3
                  exact bB cf_005 (bT rfl rfl)
                · have gc : Good2 (fun x => !psB u1 u2 x) c1 c2 c3 := gc
                  have c0 := gc.e0
                  subst c0
                  refine bB cf_000 (bF rfl ?_)
                  obtain ⟨⟨s1, s2, s3⟩, es, hs⟩ := p_periodic_Meet a1 b1 a2 b2
                  obtain ⟨⟨t1, t2, t3⟩, et, ht⟩ := p_periodic_Meet P b1 l b2
                  obtain ⟨⟨k1, k2, k3⟩, ek, hk⟩ := p_periodic_Union d1 m1 d2 m2
                  obtain ⟨⟨o1, o2, o3⟩, eo, ho⟩ := p_periodic_Meet P u1 l u2
                  rw [es, et, ek, eo]
                  have r1 := ans_if ((hs.good ga.v gb.v).congr (g := fun x => !psB u1 u2 x) fun x => by
                    rw [ga.mem, gb.mem, gu.mem]; unfold rAnd rOr; cases psB P l x <;> cases psB Q l' x <;> rfl)
                  have r2 := eq_if ((ht.good va gb.v).congr (g := fun x => rSub (psB P l x) (psB Q l' x)) fun x => by
                    rw [gb.mem]; unfold rAnd rSub; rfl) gd
                  have r3 := eq_if ((hk.good gd.v gm.v).congr (g := psB P l) fun x => by
                    rw [gd.mem, gm.mem]; unfold rOr rSub rAnd; cases psB P l x <;> cases psB Q l' x <;> rfl) va.good
                  have r4 := eq_if ((ho.good va gu.v).congr (g := psB P l) fun x => by
                    rw [gu.mem]; unfold rOr rAnd; cases psB P l x <;> cases psB Q l' x <;> rfl) va.good
                  refine bB rfl (bB (v := false) ?_ (bF rfl (bB rfl (bB rfl (bB rfl (bB (v := true) ?_ rfl))))))
                  · rcases r1 with s0 | ⟨s0, gs⟩
                    · exact bF s0 rfl
                    · exact bT s0 (bB (gc.equal gs) rfl)
                  · rcases r2 with x2 | ⟨x2, y2⟩ <;> rcases r3 with x3 | ⟨x3, y3⟩ <;> rcases r4 with x4 | ⟨x4, y4⟩
                    all_goals simp only [x2, x3, x4, cond_true, cond_false, Bool.not_true, Bool.not_false]
                    all_goals try simp only [y2, Option.bind_some, cond_true]
                    all_goals try simp only [y3, Option.bind_some, cond_true]
                    all_goals try simp only [y4, Option.bind_some]
        · exact bB (v := true) (bB rfl (bF rfl (bB rfl (bF (dF h) (bB rfl (bF (dF h') (bB rfl (bF (nF (pvB_t va)) (bB rfl (congrArg some (nT (pvB_f vb)))))))))))) (bT rfl rfl)
      · exact bB (v := true) (bB rfl (bF rfl (bB rfl (bF (dF h) (bB rfl (bF (dF h') (bB rfl (bT (nT (pvB_f va)) rfl)))))))) (bT rfl rfl)
end
section
theorem meas_snoc (l : List Sp) (s : Sp) : meas (l ++ [s]) = meas l + (s.2 - s.1) := by
  induction l with
  | nil => simp [meas]
  | cons t l ih => simp only [List.cons_append, meas, ih]; omega
theorem rk_snoc (l : List Sp) (s : Sp) (x : Int) : rk (l ++ [s]) x = rk l x + rk1 s x := by
  induction l with
  | nil => simp [rk]
  | cons t l ih => simp only [List.cons_append, rk, ih]; omega
theorem meas_take {l : List Sp} (h : Can l) (hl : Line l) : ∀ i, i ≤ l.length → 0 ≤ meas (l.take i) ∧ meas (l.take i) ≤ 8796093022208 * (i : Int) := by
  intro i
  induction i with
  | zero => intro _; simp [meas]
  | succ i ih =>
    intro hi
    have h1 := ih (by omega)
    have h2 := h.ne' (show i < l.length by omega)
    have h3 := hl l[i] (List.getElem_mem (by omega))
    rw [list_fr l (show i < l.length by omega)] at h3
    rw [take_succ' l (by omega), meas_snoc]
    simp only [] at h3 ⊢
    omega
theorem rk1_eq {s : Sp} (hs : s.1 < s.2) (x : Int) : rk1 s x = if s.1 < x then mi s.2 x - s.1 else 0 := by
  have := mi_le s.2 x
  unfold rk1 ma
  by_cases h : s.1 < x
  · rw [if_pos h]; split <;> omega
  · rw [if_neg h]; split <;> omega
theorem rk1_bd {s : Sp} (hs : s.1 < s.2) (x : Int) : 0 ≤ rk1 s x ∧ rk1 s x ≤ s.2 - s.1 := by
  have := mi_le s.2 x
  rw [rk1_eq hs]
  split <;> omega
theorem rk_take {l : List Sp} (h : Can l) (x : Int) : ∀ i, i ≤ l.length → 0 ≤ rk (l.take i) x ∧ rk (l.take i) x ≤ meas (l.take i) := by
  intro i
  induction i with
  | zero => intro _; simp [meas, rk]
  | succ i ih =>
    intro hi
    have h1 := ih (by omega)
    have h2 := h.ne' (show i < l.length by omega)
    rw [take_succ' l (by omega), meas_snoc, rk_snoc]
    have := rk1_bd (s := (fr l i, tt l i)) h2 x
    simp only [] at this ⊢
    omega
theorem p_Measure_loop {l : List Sp} (h : Can l) (hl : Line l) (hn : l.length ≤ 2000) : loop (m_runs_Measure_L1 std l) (0, 0) = some (meas l) := by
  have hh := loop_to' (B := m_runs_Measure_L1 std l) (n := l.length) (fun i => (meas (l.take i), (i : Int))) (e := meas l) (by omega) (fun i hi => by
    have h1 := meas_take h hl i (by omega)
    have h2 := h.ne' hi
    have h3 := hl l[i] (List.getElem_mem hi)
    rw [list_fr l hi] at h3
    simp only [] at h3
    rw [m_runs_Measure_L1_eq]
    simp only [Int.toNat_natCast, fr_def, tt_def]
    refine bT (dT (by omega)) (gX (by omega) (gK hi (gI (by omega) (gI (by omega) (gI (by omega) ?_)))))
    rw [take_succ' l hi, meas_snoc]; rfl) (by
    rw [m_runs_Measure_L1_eq]
    refine bF (dF (by omega)) ?_
    simp only [List.take_length])
  exact hh
theorem p_runs_Measure {l : List Sp} (h : Can l) (hl : Line l) (hn : l.length ≤ 2000) : m_runs_Measure std l = some (meas l) := by
  rw [m_runs_Measure_eq, p_runs_Valid', dT hn, canB_iff.2 ⟨h, hl⟩]
  exact bB rfl (bF rfl (bB (p_Measure_loop h hl hn) rfl))
theorem Std.line {P : Int} {l : List Sp} (h : Std P l) (hP : P ≤ 12622780800) : Line l := fun s hs => by have := h.bd s hs; have := h.can.ne s hs; omega
theorem p_runs_Rank {l : List Sp} (h : Can l) (hl : Line l) (hn : l.length ≤ 2000) (x : Int) : m_runs_Rank std x l = some (rk l x) := by
  have hh := loop_to' (B := m_runs_Rank_L1 std l x) (n := l.length) (fun i => (rk (l.take i) x, (i : Int))) (e := rk l x) (by omega) (fun i hi => by
    have h1 := meas_take h hl i (by omega)
    have h2 := h.ne' hi
    have h3 := hl l[i] (List.getElem_mem hi)
    rw [list_fr l hi] at h3
    simp only [] at h3
    have h4 := rk_take h x i (by omega)
    have h5 := rk1_bd (s := (fr l i, tt l i)) h2 x
    have h6 := rk1_eq (s := (fr l i, tt l i)) h2 x
    simp only [] at h5 h6
    have h7 := mi_le (tt l i) x
    rw [m_runs_Rank_L1_eq]
    simp only [Int.toNat_natCast, fr_def, tt_def]
    refine bT (dT (by omega)) (gX (by omega) (gK hi (bB (v := rk (l.take (i + 1)) x) ?_ (gI (by omega) rfl))))
    rw [take_succ' l hi, rk_snoc]
    by_cases hc : fr l i < x
    · rw [if_pos hc] at h6
      refine bT (dT hc) (gI (by omega) (gI (by omega) (congrArg some ?_)))
      omega
    · rw [if_neg hc] at h6
      refine bF (dF hc) (congrArg some ?_)
      omega) (by
    rw [m_runs_Rank_L1_eq]
    refine bF (dF (by omega)) ?_
    simp only [List.take_length])
  rw [m_runs_Rank_eq, p_runs_Valid', dT hn, canB_iff.2 ⟨h, hl⟩]
  exact bB rfl (bF rfl (bB hh rfl))
theorem prod_bd {P M x : Int} (hP : 1 ≤ P) (h0 : 0 ≤ M) (hM : M ≤ P) (hx : -8796093022208 ≤ x) (hx2 : x ≤ 8796093022208) (hP2 : P ≤ 12622780800) : -8900000000000 ≤ x / P * M ∧ x / P * M ≤ 8900000000000 := by
  have h1 := Int.emod_add_mul_ediv x P
  have h2 := Int.emod_nonneg x (show P ≠ 0 by omega)
  have h3 := Int.emod_lt_of_pos x (show 0 < P by omega)
  obtain ⟨q, hq⟩ : ∃ q, x / P = q := ⟨_, rfl⟩
  rw [hq] at h1 ⊢
  rw [Int.mul_comm P q] at h1
  rcases Int.le_total 0 q with h | h
  · have a1 : q * M ≤ q * P := Int.mul_le_mul_of_nonneg_left hM h
    have a2 : 0 ≤ q * M := Int.mul_nonneg h h0
    omega
  · have a1 : q * P ≤ q * M := Int.mul_le_mul_of_nonpos_left h hM
    have a2 : q * M ≤ 0 := Int.mul_nonpos_of_nonpos_of_nonneg h h0
    omega
theorem p_periodic_below {P x : Int} {l : List Sp} (v : VP P l) (hx : -8796093022208 ≤ x) (hx2 : x ≤ 8796093022208) : m_periodic_below std P x l = some (bel P l x) := by
  have p1 := v.p1
  have p2 := v.p2
  have hl := v.toStd.line p2
  have hb := meas_bd v.toStd
  have m1 := Int.emod_nonneg x (show P ≠ 0 by omega)
  have m2 := Int.emod_lt_of_pos x (show 0 < P by omega)
  have hr := rk_bd v.toStd (x % P) m1
  have hpr := prod_bd p1 hb.1 hb.2 hx hx2 p2
  rw [m_periodic_below_eq]
  have hbel : bel P l x = x / P * meas l + rk l (x % P) := by unfold bel; rw [v.toStd.rkP]
  rw [hbel]
  exact bB (p_integer_Div x P (by omega) (by omega) p1 (by omega)) (bB (p_runs_Measure v.can hl v.n2) (gI (by omega) (bB (p_runs_Rank v.can hl v.n2 _) (gI (by omega) rfl))))
theorem bel_bd {P x : Int} {l : List Sp} (v : VP P l) (hx : -8796093022208 ≤ x) (hx2 : x ≤ 8796093022208) : -8920000000000 ≤ bel P l x ∧ bel P l x ≤ 8920000000000 := by
  have p1 := v.p1
  have p2 := v.p2
  have hb := meas_bd v.toStd
  have m1 := Int.emod_nonneg x (show P ≠ 0 by omega)
  have m2 := Int.emod_lt_of_pos x (show 0 < P by omega)
  have hr := rk_bd v.toStd (x % P) m1
  have hpr := prod_bd p1 hb.1 hb.2 hx hx2 p2
  unfold bel
  rw [v.toStd.rkP]
  omega
theorem p_periodic_Count {P a b : Int} {l : List Sp} (v : VP P l) (hs : -4398046511104 ≤ a ∧ b ≤ 4398046511104 ∧ a < b) : m_periodic_Count std P a b l = some (bel P l b - bel P l a, 0) := by
  have h1 := bel_bd v (x := a) (by omega) (by omega)
  have h2 := bel_bd v (x := b) (by omega) (by omega)
  rw [m_periodic_Count_eq, p_periodic_Valid, p_interval_Valid]
  exact bB (v := false) (bB rfl (bF (nF (pvB_t v)) (bB rfl (congrArg some (nF (svB_iff.2 hs)))))) (bF rfl (bB (p_periodic_below v (by omega) (by omega)) (bB (p_periodic_below v (by omega) (by omega)) (gI (by omega) rfl))))
theorem p_periodic_Count_bad {P a b : Int} {l : List Sp} (h : ¬ (VP P l ∧ (-4398046511104 ≤ a ∧ b ≤ 4398046511104 ∧ a < b))) : m_periodic_Count std P a b l = some (0, 1) := by
  rw [m_periodic_Count_eq, p_periodic_Valid, p_interval_Valid]
  refine bB (v := true) (bB rfl ?_) (bT rfl rfl)
  by_cases v : VP P l
  · exact bF (nF (pvB_t v)) (bB rfl (congrArg some (nT (svB_false.2 fun hs => h ⟨v, hs⟩))))
  · exact bT (nT (pvB_f v)) rfl

theorem pl_PeriodicCounts (P a b c : Int) (l : List Sp) : m_law13_PeriodicCounts std P a b c l = some true := by
  rw [m_law13_PeriodicCounts_eq, p_law13_awake, p_law13_long, p_periodic_Valid, p_law13_line, p_law13_line]
  by_cases h : 40 < l.length
  · exact bB (v := true) (bB rfl (bF rfl (bB rfl (bT (dT h) rfl)))) (bT rfl rfl)
  · by_cases v : VP P l
    · by_cases ha : -4398046511104 ≤ a ∧ a ≤ 4398046511104
      · by_cases hc : -4398046511104 ≤ c ∧ c ≤ 4398046511104
        · by_cases hab : b ≤ a
          · exact bB (v := true) (bB rfl (bF rfl (bB rfl (bF (dF h) (bB rfl (bF (nF (pvB_t v)) (bB rfl (bF (nF (dT ha)) (bB rfl (bF (nF (dT hc)) (bT (dT hab) rfl))))))))))) (bT rfl rfl)
          · by_cases hbc : c ≤ b
            · exact bB (v := true) (bB rfl (bF rfl (bB rfl (bF (dF h) (bB rfl (bF (nF (pvB_t v)) (bB rfl (bF (nF (dT ha)) (bB rfl (bF (nF (dT hc)) (bF (dF hab) (congrArg some (dT hbc))))))))))))) (bT rfl rfl)
            · refine bB (v := false) (bB rfl (bF rfl (bB rfl (bF (dF h) (bB rfl (bF (nF (pvB_t v)) (bB rfl (bF (nF (dT ha)) (bB rfl (bF (nF (dT hc)) (bF (dF hab) (congrArg some (dF hbc))))))))))))) (bF rfl ?_)
              have p1 := v.p1
              have p2 := v.p2
              obtain ⟨⟨n1, n2, n3⟩, en, hn⟩ := p_periodic_Not P l
              have gn : Good2 (fun x => !psB P l x) n1 n2 n3 := hn.short v (by omega)
              have n0 := gn.e0
              subst n0
              have t1 := bel_bd v (x := a) (by omega) (by omega)
              have t2 := bel_bd v (x := b) (by omega) (by omega)
              have t3 := bel_bd v (x := c) (by omega) (by omega)
              have s1 := bel_bd gn.v (x := a) (by omega) (by omega)
              have s3 := bel_bd gn.v (x := c) (by omega) (by omega)
              have hsum : (bel P l c + bel n1 n2 c) - (bel P l a + bel n1 n2 a) = c - a := by
                have := step_eq (F := fun x => bel P l x + bel n1 n2 x) (G := fun x => x) (a := a) (b := c) (by omega) fun x _ _ => by
                  have e1 := bel_step v.toStd x
                  have e2 := bel_step gn.v.toStd x
                  rw [gn.mem] at e2
                  show (bel P l (x + 1) + bel n1 n2 (x + 1)) - (bel P l x + bel n1 n2 x) = x + 1 - x
                  cases hb : psB P l x <;> rw [hb] at e1 e2 <;> simp [bI] at e1 e2 <;> omega
                simpa using this
              rw [p_periodic_Count v ⟨ha.1, by omega, by omega⟩, p_periodic_Count v ⟨by omega, hc.2, by omega⟩, p_periodic_Count v ⟨ha.1, hc.2, by omega⟩, en]
              refine bB rfl (bB rfl (bB rfl (bB rfl (bB (p_periodic_Count gn.v ⟨ha.1, hc.2, by omega⟩) (bB (v := false) (bF rfl (bF rfl (bF rfl (bF rfl (bF rfl (bF (nF (eT (by omega))) (gI (by omega) (gI (by omega) (gI (by omega) (congrArg some (nF (eT (by omega))))))))))))) (bF rfl (gI (by omega) ?_)))))))
              rw [p_law13_line]
              refine bB rfl ?_
              by_cases hap : -4398046511104 ≤ a + P ∧ a + P ≤ 4398046511104
              · refine bF (nF (dT hap)) ?_
                have hper := bel_period v.toStd a
                have hper0 := bel_period v.toStd 0
                have hz := bel_zero v.toStd
                rw [Int.zero_add] at hper0
                rw [p_periodic_Count v ⟨by omega, by omega, by omega⟩, p_periodic_Count v ⟨ha.1, hap.2, by omega⟩]
                exact bB rfl (bB rfl (bB (v := true) (bT rfl (bT rfl (congrArg some (eT (by omega))))) rfl))
              · exact bT (nT (dF hap)) rfl
        · exact bB (v := true) (bB rfl (bF rfl (bB rfl (bF (dF h) (bB rfl (bF (nF (pvB_t v)) (bB rfl (bF (nF (dT ha)) (bB rfl (bT (nT (dF hc)) rfl)))))))))) (bT rfl rfl)
      · exact bB (v := true) (bB rfl (bF rfl (bB rfl (bF (dF h) (bB rfl (bF (nF (pvB_t v)) (bB rfl (bT (nT (dF ha)) rfl)))))))) (bT rfl rfl)
    · exact bB (v := true) (bB rfl (bF rfl (bB rfl (bF (dF h) (bB rfl (bT (nT (pvB_f v)) rfl)))))) (bT rfl rfl)
end
section
/-- where the next number lies -/
theorem p_periodic_Next {P x : Int} {l : List Sp} (v : VP P l) (h0 : 0 < l.length) (hx : -4398046511104 ≤ x ∧ x ≤ 4398046511104) : ∃ y, m_periodic_Next std P x l = some (y, true) ∧ x ≤ y ∧ y < x + P ∧ psB P l y = true ∧ ∀ z, x ≤ z → z < y → psB P l z = false := by
  have p1 := v.p1
  have p2 := v.p2
  have m1 := Int.emod_nonneg x (show P ≠ 0 by omega)
  have m2 := Int.emod_lt_of_pos x (show 0 < P by omega)
  have m3 := Int.emod_add_mul_ediv x P
  obtain ⟨r, hr⟩ : ∃ r, x % P = r := ⟨_, rfl⟩
  obtain ⟨q, hq⟩ : ∃ q, x / P = q := ⟨_, rfl⟩
  rw [hr] at m1 m2
  rw [hr, hq] at m3
  have hps : ∀ d, 0 ≤ r + d → r + d < P → psB P l (x + d) = memB l (r + d) := fun d d1 d2 => by
    unfold psB
    have e : x + d = (r + d) + P * q := by omega
    rw [e, Int.add_mul_emod_self_left, Int.emod_eq_of_lt d1 d2]
  have hps2 : ∀ d, 0 ≤ r + d - P → r + d - P < P → psB P l (x + d) = memB l (r + d - P) := fun d d1 d2 => by
    unfold psB
    have e : x + d = (r + d - P) + P * (q + 1) := by rw [Int.mul_add]; omega
    rw [e, Int.add_mul_emod_self_left, Int.emod_eq_of_lt d1 d2]
  obtain ⟨i, b, e, i1, i2, i3⟩ := p_slices_BinarySearchFunc_2 v.can (by have := v.n2; omega) r
  have hsearch : m_runs_search std r l = some (i : Int) := by rw [m_runs_search_eq, e]; rfl
  have hrv : m_runs_Valid std l = some true := by rw [p_runs_Valid', dT v.n2, canB_iff.2 ⟨v.can, v.toStd.line p2⟩]; rfl
  rw [m_periodic_Next_eq, p_periodic_Valid]
  have hpre : (Option.bind (some (pvB P l)) fun b180 => bif (!b180) then (some true) else bif ((((List.length l) : Nat) : Int) == 0) then (some true) else bif (decide (x < (-4398046511104))) then (some true) else (some (decide (4398046511104 < x))) : Option Bool) = some false :=
    bB rfl (bF (nF (pvB_t v)) (bF (eF (by omega)) (bF (dF (by omega)) (congrArg some (dF (by omega))))))
  have hmod : m_integer_Mod std x P = some r := by rw [p_integer_Mod x P (by omega) (by omega) p1 (by omega), hr]
  have hf := v.toStd.at h0
  by_cases hlt : i < l.length
  · have ha := v.toStd.at hlt
    have hi3 := i3 hlt
    have hma := ma_ge r (fr l i)
    refine ⟨x + ma r (fr l i) - r, bB hpre (bF rfl (bB hmod (bB (v := (ma r (fr l i), true)) ?_ (bT rfl (gI (by omega) (gI (by omega) rfl)))))), by omega, by omega, ?_, fun z z1 z2 => ?_⟩
    · rw [m_runs_Next_eq]
      refine bB hrv (bF rfl (bB hsearch (bF (eF (by omega)) (gX (by omega) (gK (by omega) ?_)))))
      simp only [Int.toNat_natCast, fr_def]
    · have := hps (ma r (fr l i) - r) (by omega) (by omega)
      rw [show x + ma r (fr l i) - r = x + (ma r (fr l i) - r) by omega, this, show r + (ma r (fr l i) - r) = ma r (fr l i) by omega]
      exact memB_iff.2 (mem_idx.2 ⟨i, hlt, by omega, by omega⟩)
    · have := hps (z - x) (by omega) (by omega)
      rw [show x + (z - x) = z by omega] at this
      rw [this]
      refine memB_false.2 fun hm => ?_
      obtain ⟨j, hj, a, b⟩ := mem_idx.1 hm
      rcases Nat.lt_or_ge j i with h | h
      · have := i2 j h; omega
      · have := (v.can.mono h hj).1; omega
  · have hil : i = l.length := by omega
    have hi20 := i2 0 (by omega)
    refine ⟨x + P - r + fr l 0, bB hpre (bF rfl (bB hmod (bB (v := (0, false)) ?_ (bF rfl (gI (by omega) (gI (by omega) (gX (by omega) (gK (by show 0 < l.length; omega) ?_)))))))), by omega, by omega, ?_, fun z z1 z2 => ?_⟩
    · rw [m_runs_Next_eq]
      exact bB hrv (bF rfl (bB hsearch (bT (eT (by omega)) rfl)))
    · have ez : Int.toNat 0 = 0 := rfl
      simp only [ez, fr_def]
      exact gI (by omega) rfl
    · have := hps2 (P - r + fr l 0) (by omega) (by omega)
      rw [show x + P - r + fr l 0 = x + (P - r + fr l 0) by omega, this, show r + (P - r + fr l 0) - P = fr l 0 by omega]
      exact memB_iff.2 (mem_idx.2 ⟨0, h0, by omega, by omega⟩)
    · by_cases hz : r + (z - x) < P
      · have := hps (z - x) (by omega) hz
        rw [show x + (z - x) = z by omega] at this
        rw [this]
        refine memB_false.2 fun hm => ?_
        obtain ⟨j, hj, a, b⟩ := mem_idx.1 hm
        have := i2 j (by omega)
        omega
      · have := hps2 (z - x) (by omega) (by omega)
        rw [show x + (z - x) = z by omega] at this
        rw [this]
        refine memB_false.2 fun hm => ?_
        obtain ⟨j, hj, a, b⟩ := mem_idx.1 hm
        have := (v.can.mono (Nat.zero_le j) hj).1
        omega
theorem p_periodic_Next_none {P x : Int} {l : List Sp} (h : ¬ (VP P l ∧ 0 < l.length ∧ -4398046511104 ≤ x ∧ x ≤ 4398046511104)) : m_periodic_Next std P x l = some (0, false) := by
  rw [m_periodic_Next_eq, p_periodic_Valid]
  refine bB (v := true) (bB rfl ?_) (bT rfl rfl)
  by_cases v : VP P l
  · refine bF (nF (pvB_t v)) ?_
    by_cases h0 : l.length = 0
    · exact bT (eT (by omega)) rfl
    · refine bF (eF (by omega)) ?_
      by_cases hx : x < -4398046511104
      · exact bT (dT hx) rfl
      · exact bF (dF hx) (congrArg some (dT (Classical.byContradiction fun hx2 => h ⟨v, by omega, by omega, by omega⟩)))
  · exact bT (nT (pvB_f v)) rfl
theorem pl_PeriodicNext (P x : Int) (l : List Sp) : m_law13_PeriodicNext std P x l = some true := by
  rw [m_law13_PeriodicNext_eq, p_law13_awake, p_law13_long, p_periodic_Valid]
  by_cases h : 40 < l.length
  · exact bB (v := true) (bB rfl (bF rfl (bB rfl (by rw [dT h])))) (bT rfl rfl)
  · refine bB (v := false) (bB rfl (bF rfl (bB rfl (by rw [dF h])))) (bF rfl ?_)
    by_cases hg : VP P l ∧ 0 < l.length ∧ -4398046511104 ≤ x ∧ x ≤ 4398046511104
    · obtain ⟨v, h0, hx⟩ := hg
      have p1 := v.p1
      have p2 := v.p2
      obtain ⟨y, e, y1, y2, y3, y4⟩ := p_periodic_Next v h0 hx
      rw [e, p_law13_line]
      refine bB rfl (bB (v := false) (bB rfl (bF (nF (pvB_t v)) (bB rfl (bF (nF (dT hx)) (congrArg some (eF (by omega))))))) (bF rfl (bB (v := false) (bF rfl (bF (dF (by omega)) (bF (dF (by omega)) (gI (by omega) (bB (p_periodic_Has P y l (by omega) (by omega)) (by rw [pvB_t v, y3]; rfl)))))) (bF rfl ?_))))
      by_cases hy : y = x
      · exact bB (v := true) (bT (eT hy) rfl) (bT rfl rfl)
      · rw [p_law13_line]
        by_cases hl : -4398046511104 ≤ y ∧ y ≤ 4398046511104
        · refine bB (v := false) (bF (eF hy) (bB rfl (congrArg some (nF (dT hl))))) (bF rfl (bB (p_periodic_Count v ⟨hx.1, hl.2, by omega⟩) (bB (v := true) (bT rfl (congrArg some (eT ?_))) rfl)))
          have := step_eq (F := bel P l) (G := fun _ => 0) (a := x) (b := y) y1 fun z z1 z2 => by
            rw [bel_step v.toStd, y4 z z1 z2]; rfl
          simpa using this
        · exact bB (v := true) (bF (eF hy) (bB rfl (congrArg some (nT (dF hl))))) (bT rfl rfl)
    · rw [p_periodic_Next_none hg, p_law13_line]
      refine bB rfl (bB (v := true) (bB rfl ?_) (bT rfl (bB (v := true) (bT rfl rfl) rfl)))
      by_cases v : VP P l
      · refine bF (nF (pvB_t v)) (bB rfl ?_)
        by_cases hx : -4398046511104 ≤ x ∧ x ≤ 4398046511104
        · exact bF (nF (dT hx)) (congrArg some (eT (Classical.byContradiction fun h0 => hg ⟨v, by omega, hx⟩)))
        · exact bT (nT (dF hx)) rfl
      · exact bT (nT (pvB_f v)) rfl
end
section
/-- the part of a span in another one -/
def cl (a b : Int) (s : Sp) : Option Sp := if ma s.1 a < mi s.2 b then some (ma s.1 a, mi s.2 b) else none
theorem cl_some {a b : Int} {s t : Sp} (h : cl a b s = some t) : t = (ma s.1 a, mi s.2 b) ∧ ma s.1 a < mi s.2 b := by
  unfold cl at h
  split at h
  · rename_i hc
    injection h with h
    exact ⟨h.symm, hc⟩
  · cases h
theorem cl_ok {a b : Int} {l : List Sp} (hp : l.Pairwise fun s t => s.2 ≤ t.1) : (∀ t ∈ l.filterMap (cl a b), t.1 < t.2 ∧ a ≤ t.1 ∧ t.2 ≤ b) ∧ (l.filterMap (cl a b)).Pairwise (fun s t => s.2 ≤ t.1) ∧ ∀ x, Mem (l.filterMap (cl a b)) x ↔ Mem l x ∧ a ≤ x ∧ x < b := by
  refine ⟨fun t ht => ?_, List.pairwise_filterMap.2 (hp.imp fun {s t} hst u hu v hv => ?_), fun x => ?_⟩
  · obtain ⟨s, hs, e⟩ := List.mem_filterMap.1 ht
    obtain ⟨rfl, hc⟩ := cl_some e
    have := ma_ge s.1 a
    have := mi_le s.2 b
    exact ⟨hc, by show a ≤ ma s.1 a; omega, by show mi s.2 b ≤ b; omega⟩
  · obtain ⟨rfl, _⟩ := cl_some hu
    obtain ⟨rfl, _⟩ := cl_some hv
    have := ma_ge t.1 a
    have := mi_le s.2 b
    show mi s.2 b ≤ ma t.1 a
    omega
  · constructor
    · rintro ⟨t, ht, u, v⟩
      obtain ⟨s, hs, e⟩ := List.mem_filterMap.1 ht
      obtain ⟨rfl, hc⟩ := cl_some e
      have := ma_ge s.1 a
      have := mi_le s.2 b
      change ma s.1 a ≤ x at u
      change x < mi s.2 b at v
      exact ⟨⟨s, hs, by omega, by omega⟩, by omega, by omega⟩
    · rintro ⟨⟨s, hs, u, v⟩, h1, h2⟩
      have := ma_ge s.1 a
      have := mi_le s.2 b
      exact ⟨_, List.mem_filterMap.2 ⟨s, hs, if_pos (by omega)⟩, by show ma s.1 a ≤ x; omega, by show x < mi s.2 b; omega⟩
theorem shL_app (d : Int) (l l' : List Sp) : shL d (l ++ l') = shL d l ++ shL d l' := by simp [shL]
theorem shL_shL (d e : Int) (l : List Sp) : shL d (shL e l) = shL (d + e) l := by
  unfold shL
  rw [List.map_map]
  refine List.map_congr_left fun s _ => ?_
  show (s.1 + e + d, s.2 + e + d) = (s.1 + (d + e), s.2 + (d + e))
  congr 1 <;> omega
theorem shL_mem {d : Int} {l : List Sp} {x : Int} : Mem (shL d l) x ↔ Mem l (x - d) := by
  constructor
  · rintro ⟨s, hs, a, b⟩
    obtain ⟨u, hu, rfl⟩ := List.mem_map.1 hs
    change u.1 + d ≤ x at a
    change x < u.2 + d at b
    exact ⟨u, hu, by omega, by omega⟩
  · rintro ⟨u, hu, a, b⟩
    exact ⟨_, List.mem_map.2 ⟨u, hu, rfl⟩, by show u.1 + d ≤ x; omega, by show x < u.2 + d; omega⟩
/-- the window behind t periods -/
def winL (P a b a0 : Int) (l : List Sp) (t : Nat) : List Sp := ((shL a0 (copies P l t)).filterMap (cl a b)).foldl addS []
theorem addL_mono : ∀ (c acc : List Sp), acc.length ≤ (c.foldl addS acc).length := by
  intro c
  induction c with
  | nil => intro acc; simp
  | cons s c ih =>
    intro acc
    have h1 := ih (addS acc s)
    have h2 : acc.length ≤ (addS acc s).length := by
      rcases List.eq_nil_or_concat acc with rfl | ⟨l', t, rfl⟩
      · simp
      · simp only [List.concat_eq_append]
        rw [addS_snoc]
        split <;> simp
    exact Nat.le_trans h2 h1
theorem winL_succ (P a b a0 : Int) (l : List Sp) (t : Nat) : winL P a b a0 l (t + 1) = ((shL (a0 + P * t) l).filterMap (cl a b)).foldl addS (winL P a b a0 l t) := by
  unfold winL
  rw [copies, shL_app, List.filterMap_append, List.foldl_append, shL_shL]
section
variable {P a b : Int} {l : List Sp} (v : VP P l) (hs : -4398046511104 ≤ a ∧ b ≤ 4398046511104 ∧ a < b)
include v hs
theorem p_Meet {f t at' : Int} (h1 : 0 ≤ f) (h2 : f < t) (h3 : t ≤ P) (h4 : -4500000000000 ≤ at') (h5 : at' ≤ 4500000000000) :
    m_interval_Meet std (ma (f + at') a) (ma (mi (t + at') b) a) a b = some (match cl a b (f + at', t + at') with | some s => (s.1, s.2, true) | none => (0, 0, false)) := by
  have _ := v
  have e1 := ma_ge (f + at') a
  have e2 := mi_le (t + at') b
  have e3 := ma_ge (mi (t + at') b) a
  rw [m_interval_Meet_eq, p_interval_Valid, p_interval_Valid]
  by_cases hc : ma (f + at') a < mi (t + at') b
  · have hcl : cl a b (f + at', t + at') = some (ma (f + at') a, mi (t + at') b) := if_pos hc
    rw [hcl]
    have e4 : ma (mi (t + at') b) a = mi (t + at') b := by omega
    rw [e4]
    have e5 : ma (ma (f + at') a) a = ma (f + at') a := by have := ma_ge (ma (f + at') a) a; omega
    have e6 : mi (mi (t + at') b) b = mi (t + at') b := by have := mi_le (mi (t + at') b) b; omega
    rw [e5, e6]
    exact bB (v := false) (bB rfl (bF (nF (svB_iff.2 (by omega))) (bB rfl (bF (nF (svB_iff.2 hs)) (congrArg some (dF (by omega))))))) (bF rfl rfl)
  · have hcl : cl a b (f + at', t + at') = none := if_neg hc
    rw [hcl]
    exact bB (v := true) (bB rfl (bT (nT (svB_false.2 (by omega))) rfl)) (bT rfl rfl)
theorem p_Window_L1 {at' : Int} (h4 : -4500000000000 ≤ at') (h5 : at' ≤ 4500000000000) {out : List Sp} (ho : out.length ≤ 2000) :
    loop (m_periodic_Window_L1 std at' a b l) (0, out) = some (((shL at' l).filterMap (cl a b)).foldl addS out) := by
  have hn := v.n2
  have hh := loop_up (B := m_periodic_Window_L1 std at' a b l) (n := l.length) (fun i => ((shL at' (l.take i)).filterMap (cl a b)).foldl addS out) (e := ((shL at' l).filterMap (cl a b)).foldl addS out) (by omega) (fun i hi => by
    have ha := v.toStd.at hi
    have hp2 := v.p2
    have hlen := addL_len ((shL at' (l.take i)).filterMap (cl a b)) out
    have hf := filterMap_len (cl a b) (shL at' (l.take i))
    rw [shL_len, List.length_take] at hf
    have e1 : shL at' (l.take (i + 1)) = shL at' (l.take i) ++ [(fr l i + at', tt l i + at')] := by rw [take_succ' l hi, shL_app]; rfl
    have e2 : ((shL at' (l.take (i + 1))).filterMap (cl a b)).foldl addS out = match cl a b (fr l i + at', tt l i + at') with | some s => addS (((shL at' (l.take i)).filterMap (cl a b)).foldl addS out) s | none => ((shL at' (l.take i)).filterMap (cl a b)).foldl addS out := by
      rw [e1, List.filterMap_append, List.foldl_append]
      cases hc : cl a b (fr l i + at', tt l i + at') <;> simp [hc]
    rw [e2, m_periodic_Window_L1_eq]
    generalize ((shL at' (l.take i)).filterMap (cl a b)).foldl addS out = acc at *
    simp only [Int.toNat_natCast]
    refine bT (dT (by omega)) (gX (by omega) (gK hi (gI (by rw [fr_def]; omega) (gI (by rw [tt_def]; omega) ?_))))
    have hM := p_Meet v hs (f := fr l i) (t := tt l i) (at' := at') ha.1 ha.2.1 ha.2.2 h4 h5
    refine bB hM ?_
    cases hc : cl a b (fr l i + at', tt l i + at') with
    | none => exact bB (v := acc) rfl (gI (by omega) rfl)
    | some s => exact bB (v := addS acc s) (add_step acc s.1 s.2 (by omega) (fun l241 => (some l241))) (gI (by omega) rfl)) (by
    rw [m_periodic_Window_L1_eq]
    refine bF (dF (by omega)) ?_
    simp only [List.take_length])
  have e0 : ((shL at' (l.take 0)).filterMap (cl a b)).foldl addS out = out := by simp [shL]
  rw [e0] at hh
  exact hh
theorem p_refWindow_L1 {at' : Int} (h4 : -4500000000000 ≤ at') (h5 : at' ≤ 4500000000000) {out : List Sp} (ho : out.length ≤ 2000) :
    loop (m_ref13_Window_L1 std at' a b l) (0, out) = some (((shL at' l).filterMap (cl a b)).foldl addS out) := by
  have _ := hs
  have hn := v.n2
  have hh := loop_up (B := m_ref13_Window_L1 std at' a b l) (n := l.length) (fun i => ((shL at' (l.take i)).filterMap (cl a b)).foldl addS out) (e := ((shL at' l).filterMap (cl a b)).foldl addS out) (by omega) (fun i hi => by
    have ha := v.toStd.at hi
    have hp2 := v.p2
    have hlen := addL_len ((shL at' (l.take i)).filterMap (cl a b)) out
    have hf := filterMap_len (cl a b) (shL at' (l.take i))
    rw [shL_len, List.length_take] at hf
    have e1 : shL at' (l.take (i + 1)) = shL at' (l.take i) ++ [(fr l i + at', tt l i + at')] := by rw [take_succ' l hi, shL_app]; rfl
    have e2 : ((shL at' (l.take (i + 1))).filterMap (cl a b)).foldl addS out = match cl a b (fr l i + at', tt l i + at') with | some s => addS (((shL at' (l.take i)).filterMap (cl a b)).foldl addS out) s | none => ((shL at' (l.take i)).filterMap (cl a b)).foldl addS out := by
      rw [e1, List.filterMap_append, List.foldl_append]
      cases hc : cl a b (fr l i + at', tt l i + at') <;> simp [hc]
    rw [e2, m_ref13_Window_L1_eq]
    generalize ((shL at' (l.take i)).filterMap (cl a b)).foldl addS out = acc at *
    simp only [Int.toNat_natCast]
    refine bT (dT (by omega)) (gX (by omega) (gK hi (gI (by rw [fr_def]; omega) (gI (by rw [tt_def]; omega) ?_))))
    by_cases hc : ma (fr l i + at') a < mi (tt l i + at') b
    · have hcl : cl a b (fr l i + at', tt l i + at') = some (ma (fr l i + at') a, mi (tt l i + at') b) := if_pos hc
      rw [hcl]
      exact bF (dF (show ¬ mi (tt l i + at') b ≤ ma (fr l i + at') a by omega)) ((add_step acc (ma (fr l i + at') a) (mi (tt l i + at') b) (by omega) (fun l258 => grd (okI .i64 ((i : Int) + 1)) <| (some (Sum.inl ((i : Int) + 1, l258))))).trans (gI (by omega) rfl))
    · have hcl : cl a b (fr l i + at', tt l i + at') = none := if_neg hc
      rw [hcl]
      exact bT (dT (show mi (tt l i + at') b ≤ ma (fr l i + at') a by omega)) (gI (by omega) rfl)) (by
    rw [m_ref13_Window_L1_eq]
    refine bF (dF (by omega)) ?_
    simp only [List.take_length])
  have e0 : ((shL at' (l.take 0)).filterMap (cl a b)).foldl addS out = out := by simp [shL]
  rw [e0] at hh
  exact hh
theorem win_ok {n : Nat} (hn : b ≤ a - a % P + P * n) : Can (winL P a b (a - a % P) l n) ∧ Line (winL P a b (a - a % P) l n) ∧ ∀ x, Mem (winL P a b (a - a % P) l n) x ↔ a ≤ x ∧ x < b ∧ PS P l x := by
  have p1 := v.p1
  have m1 := Int.emod_nonneg a (show P ≠ 0 by omega)
  have m2 := Int.emod_lt_of_pos a (show 0 < P by omega)
  have m3 := Int.emod_add_mul_ediv a P
  obtain ⟨c1, c2, c3⟩ := copies_ok v.toStd n
  have hpw : (shL (a - a % P) (copies P l n)).Pairwise fun s t => s.2 ≤ t.1 := by
    unfold shL
    rw [List.pairwise_map]
    exact c2.imp fun {s t} h => by show s.2 + _ ≤ t.1 + _; omega
  obtain ⟨d1, d2, d3⟩ := cl_ok (a := a) (b := b) hpw
  obtain ⟨j1, j2⟩ := addL_ok (acc := []) Can.nil (fun s hs => (d1 s hs).1) d2 fun t ht => by cases ht
  have hmem : ∀ x, Mem (winL P a b (a - a % P) l n) x ↔ a ≤ x ∧ x < b ∧ PS P l x := fun x => by
    unfold winL
    rw [j2, d3, shL_mem, c3]
    have hps : PS P l (x - (a - a % P)) ↔ PS P l x := by
      have e : x = (x - (a - a % P)) + P * (a / P) := by omega
      have := PS_per (P := P) (l := l) (x - (a - a % P)) (a / P)
      rw [← e] at this
      exact this.symm
    rw [hps]
    constructor
    · rintro (h | ⟨⟨u, w, z⟩, h1, h2⟩)
      · exact absurd h (mem_nil x)
      · exact ⟨h1, h2, z⟩
    · rintro ⟨h1, h2, z⟩
      exact .inr ⟨⟨by omega, by omega, z⟩, h1, h2⟩
  refine ⟨j1, fun s hs' => ?_, hmem⟩
  have hne := j1.ne s hs'
  have u1 := (hmem s.1).1 ⟨s, hs', Int.le_refl _, hne⟩
  have u2 := (hmem (s.2 - 1)).1 ⟨s, hs', by omega, by omega⟩
  omega
/-- both walks through the periods -/
theorem win_loops (h0 : 0 < l.length) : ∃ n : Nat, b ≤ a - a % P + P * n ∧
    ((loop (m_periodic_Window_L2 std a b P l) (a - a % P, ([] : List Sp)) = some (.inr (winL P a b (a - a % P) l n)) ∧ loop (m_ref13_Window_L2 std a b P l) (a - a % P, ([] : List Sp)) = some (.inr (winL P a b (a - a % P) l n)) ∧ (winL P a b (a - a % P) l n).length ≤ 2000) ∨
    (loop (m_periodic_Window_L2 std a b P l) (a - a % P, ([] : List Sp)) = some (.inl ()) ∧ loop (m_ref13_Window_L2 std a b P l) (a - a % P, ([] : List Sp)) = some (.inl ()))) := by
  have p1 := v.p1
  have p2 := v.p2
  have m1 := Int.emod_nonneg a (show P ≠ 0 by omega)
  have m2 := Int.emod_lt_of_pos a (show 0 < P by omega)
  obtain ⟨a0, ha0⟩ : ∃ a0, a - a % P = a0 := ⟨_, rfl⟩
  rw [ha0]
  have hw0 : winL P a b a0 l 0 = [] := by simp [winL, copies, shL]
  -- the number of periods
  obtain ⟨n, hn1, hn2, hn3⟩ : ∃ n : Nat, b ≤ a0 + P * n ∧ (∀ t : Nat, t < n → a0 + P * t < b) ∧ n ≤ 20000000000000 := by
    refine ⟨((b - a0 + P - 1) / P).toNat, ?_, fun t ht => ?_, ?_⟩
    · have e1 := Int.emod_add_mul_ediv (b - a0 + P - 1) P
      have e2 := Int.emod_lt_of_pos (b - a0 + P - 1) (show 0 < P by omega)
      have e3 : 0 ≤ (b - a0 + P - 1) / P := Int.ediv_nonneg (by omega) (by omega)
      rw [Int.toNat_of_nonneg e3]
      omega
    · have e1 := Int.emod_add_mul_ediv (b - a0 + P - 1) P
      have e2 := Int.emod_nonneg (b - a0 + P - 1) (show P ≠ 0 by omega)
      have e4 : P * ((t : Int) + 1) ≤ P * ((b - a0 + P - 1) / P) := Int.mul_le_mul_of_nonneg_left (by omega) (by omega)
      rw [Int.mul_add] at e4
      omega
    · have e5 : (b - a0 + P - 1) / P ≤ b - a0 + P - 1 := Int.ediv_le_self _ (by omega)
      omega
  refine ⟨n, hn1, ?_⟩
  have hPt0 : ∀ t : Nat, 0 ≤ P * (t : Int) := fun t => Int.mul_nonneg (by omega) (by omega)
  have hnext : ∀ t : Nat, a0 + P * (t : Int) + P = a0 + P * ((t + 1 : Nat) : Int) := fun t => by rw [Int.natCast_add, Int.mul_add]; omega
  have hsP : ∀ t, t < n → (winL P a b a0 l t).length ≤ 2000 → m_periodic_Window_L2 std a b P l (a0 + P * (t : Int), winL P a b a0 l t) = if (winL P a b a0 l (t + 1)).length ≤ 2000 then some (.inl (a0 + P * ((t + 1 : Nat) : Int), winL P a b a0 l (t + 1))) else some (.inr (.inl ())) := fun t ht hlen => by
    have := hn2 t ht
    have := hPt0 t
    rw [m_periodic_Window_L2_eq]
    refine bB (v := true) (bT (dT (by omega)) (congrArg some (dT (by omega)))) (bT rfl (bB (p_Window_L1 v hs (by omega) (by omega) hlen) ?_))
    rw [← winL_succ]
    by_cases hc : (winL P a b a0 l (t + 1)).length ≤ 2000
    · rw [if_pos hc]
      refine bF (dF (by omega)) (gI (by omega) ?_)
      rw [hnext]
    · rw [if_neg hc]
      exact bT (dT (by omega)) rfl
  have hsR : ∀ t, t < n → (winL P a b a0 l t).length ≤ 2000 → m_ref13_Window_L2 std a b P l (a0 + P * (t : Int), winL P a b a0 l t) = if (winL P a b a0 l (t + 1)).length ≤ 2000 then some (.inl (a0 + P * ((t + 1 : Nat) : Int), winL P a b a0 l (t + 1))) else some (.inr (.inl ())) := fun t ht hlen => by
    have := hn2 t ht
    have := hPt0 t
    rw [m_ref13_Window_L2_eq]
    refine bT (dT (by omega)) (bB (p_refWindow_L1 v hs (by omega) (by omega) hlen) ?_)
    rw [← winL_succ]
    by_cases hc : (winL P a b a0 l (t + 1)).length ≤ 2000
    · rw [if_pos hc]
      refine bF (dF (by omega)) (gI (by omega) ?_)
      rw [hnext]
    · rw [if_neg hc]
      exact bT (dT (by omega)) rfl
  have e0 : (a0 + P * ((0 : Nat) : Int), winL P a b a0 l 0) = (a0, ([] : List Sp)) := by rw [hw0]; simp
  have hlenk : ∀ k, (∀ i, i < k → decide ((winL P a b a0 l (i + 1)).length ≤ 2000) = true) → (winL P a b a0 l k).length ≤ 2000 := fun k h => by
    match k with
    | 0 => rw [hw0]; simp
    | k + 1 => exact of_decide_eq_true (h k (by omega))
  rcases first_or (fun t => decide ((winL P a b a0 l (t + 1)).length ≤ 2000)) n with h | ⟨k, hk1, hk2, hk3⟩
  · refine .inl ⟨?_, ?_, hlenk n h⟩
    · have hh := loop_to' (B := m_periodic_Window_L2 std a b P l) (n := n) (fun t => (a0 + P * (t : Int), winL P a b a0 l t)) (e := .inr (winL P a b a0 l n)) (by omega) (fun i hi => by rw [hsP i hi (hlenk i fun j hj => h j (by omega)), if_pos (of_decide_eq_true (h i hi))]) (by
        rw [m_periodic_Window_L2_eq]
        exact bB (v := false) (bF (dF (by omega)) rfl) (bF rfl rfl))
      rw [e0] at hh
      exact hh
    · have hh := loop_to' (B := m_ref13_Window_L2 std a b P l) (n := n) (fun t => (a0 + P * (t : Int), winL P a b a0 l t)) (e := .inr (winL P a b a0 l n)) (by omega) (fun i hi => by rw [hsR i hi (hlenk i fun j hj => h j (by omega)), if_pos (of_decide_eq_true (h i hi))]) (by
        rw [m_ref13_Window_L2_eq]
        exact bF (dF (by omega)) rfl)
      rw [e0] at hh
      exact hh
  · refine .inr ⟨?_, ?_⟩
    · have hh := loop_to' (B := m_periodic_Window_L2 std a b P l) (n := k) (fun t => (a0 + P * (t : Int), winL P a b a0 l t)) (e := .inl ()) (by omega) (fun i hi => by rw [hsP i (by omega) (hlenk i fun j hj => hk3 j (by omega)), if_pos (of_decide_eq_true (hk3 i hi))]) (by
        rw [hsP k hk1 (hlenk k hk3), if_neg (of_decide_eq_false hk2)])
      rw [e0] at hh
      exact hh
    · have hh := loop_to' (B := m_ref13_Window_L2 std a b P l) (n := k) (fun t => (a0 + P * (t : Int), winL P a b a0 l t)) (e := .inl ()) (by omega) (fun i hi => by rw [hsR i (by omega) (hlenk i fun j hj => hk3 j (by omega)), if_pos (of_decide_eq_true (hk3 i hi))]) (by
        rw [hsR k hk1 (hlenk k hk3), if_neg (of_decide_eq_false hk2)])
      rw [e0] at hh
      exact hh
/-- both windows -/
theorem p_Windows : ∃ W e, m_periodic_Window std P a b l = some (W, e) ∧ m_ref13_Window std P a b l = some (W, e) ∧ W.length ≤ 2000 ∧ (e = 0 → Can W ∧ Line W ∧ ∀ x, Mem W x ↔ a ≤ x ∧ x < b ∧ PS P l x) := by
  have p1 := v.p1
  have p2 := v.p2
  have hpreP : (Option.bind (some (pvB P l)) fun b152 => bif (!b152) then (some true) else Option.bind (some (svB a b)) fun b153 => (some (!b153)) : Option Bool) = some false := bB rfl (bF (nF (pvB_t v)) (bB rfl (congrArg some (nF (svB_iff.2 hs)))))
  rw [m_periodic_Window_eq, m_ref13_Window_eq, p_periodic_Valid, p_ref13_Valid, p_interval_Valid, p_ref13_Span]
  rcases Nat.eq_zero_or_pos l.length with h0 | h0
  · have hl0 := List.eq_nil_of_length_eq_zero h0
    subst hl0
    refine ⟨[], 0, bB hpreP (bF rfl ?_), bB hpreP (bF rfl (bT (eT (by simp)) rfl)), by simp, fun _ => ⟨Can.nil, fun s hs' => (by cases hs'), fun x => ⟨fun h => absurd h (mem_nil x), fun h => absurd h.2.2 (mem_nil _)⟩⟩⟩
    by_cases h1 : P = 1
    · exact bB (v := .inl []) (bT (eT h1) (bT (eT (by simp)) rfl)) rfl
    · refine bB (v := .inr ()) (bF (eF h1) rfl) ?_
      have m1 := Int.emod_nonneg a (show P ≠ 0 by omega)
      have m2 := Int.emod_lt_of_pos a (show 0 < P by omega)
      have hloop := loop_to' (B := m_periodic_Window_L2 std a b P []) (n := 0) (fun _ => (a - a % P, ([] : List Sp))) (e := .inr ([] : List Sp)) (by omega) (fun i hi => by omega) (by
        rw [m_periodic_Window_L2_eq]
        exact bB (v := false) (bT (dT (by omega)) (congrArg some (dF (by simp)))) (bF rfl rfl))
      exact bB (p_integer_Mod a P (by omega) (by omega) p1 (by omega)) (gI (by omega) (bB hloop rfl))
  · by_cases h1 : P = 1
    · refine ⟨[(a, b)], 0, bB hpreP (bF rfl (bB (v := .inl [(a, b)]) (bT (eT h1) (bF (eF (by omega)) rfl)) rfl)), bB hpreP (bF rfl (bF (eF (by omega)) (bT (eT h1) rfl))), by simp, fun _ => ⟨Can.one hs.2.2, fun s hs' => by rw [List.mem_singleton.1 hs']; exact ⟨hs.1, hs.2.1⟩, fun x => ?_⟩⟩
      rw [mem_one]
      have hps : PS P l x := by
        unfold PS
        have hf := v.toStd.at h0
        subst h1
        rw [Int.emod_one]
        exact mem_idx.2 ⟨0, h0, by omega, by omega⟩
      exact ⟨fun h => ⟨h.1, h.2, hps⟩, fun h => ⟨h.1, h.2.1⟩⟩
    · have m1 := Int.emod_nonneg a (show P ≠ 0 by omega)
      have m2 := Int.emod_lt_of_pos a (show 0 < P by omega)
      obtain ⟨n, hn, hcase⟩ := win_loops v hs h0
      rcases hcase with ⟨w1, w2, w3⟩ | ⟨w1, w2⟩
      · exact ⟨_, 0, bB hpreP (bF rfl (bB (v := .inr ()) (bF (eF h1) rfl) (bB (p_integer_Mod a P (by omega) (by omega) p1 (by omega)) (gI (by omega) (bB w1 rfl))))), bB hpreP (bF rfl (bF (eF (by omega)) (bF (eF h1) (bB (p_ref01_Mod a P (by omega) (by omega) p1 (by omega)) (gI (by omega) (bB w2 rfl)))))), w3, fun _ => win_ok v hs hn⟩
      · exact ⟨[], 5, bB hpreP (bF rfl (bB (v := .inr ()) (bF (eF h1) rfl) (bB (p_integer_Mod a P (by omega) (by omega) p1 (by omega)) (gI (by omega) (bB w1 rfl))))), bB hpreP (bF rfl (bF (eF (by omega)) (bF (eF h1) (bB (p_ref01_Mod a P (by omega) (by omega) p1 (by omega)) (gI (by omega) (bB w2 rfl)))))), by simp, fun h => by cases h⟩
end
theorem p_ref13_below {P x : Int} {l : List Sp} (v : VP P l) (hx : -8796093022208 ≤ x) (hx2 : x ≤ 8796093022208) : m_ref13_below std P x l = some (bel P l x) := by
  have p1 := v.p1
  have p2 := v.p2
  have hl := v.toStd.line p2
  have hn := v.n2
  have hb := meas_bd v.toStd
  have m1 := Int.emod_nonneg x (show P ≠ 0 by omega)
  have m2 := Int.emod_lt_of_pos x (show 0 < P by omega)
  have hr := rk_bd v.toStd (x % P) m1
  have hpr := prod_bd p1 hb.1 hb.2 hx hx2 p2
  have hbel : bel P l x = x / P * meas l + rk l (x % P) := by unfold bel; rw [v.toStd.rkP]
  have hh := loop_to' (B := m_ref13_below_L1 std (x % P) l) (n := l.length) (fun i => (meas (l.take i), rk (l.take i) (x % P), (i : Int))) (e := (meas l, rk l (x % P))) (by omega) (fun i hi => by
    have h1 := meas_take v.can hl i (by omega)
    have h2 := v.toStd.at hi
    have h4 := rk_take v.can (x % P) i (by omega)
    have h5 := rk1_bd (s := (fr l i, tt l i)) h2.2.1 (x % P)
    simp only [] at h5
    have h7 := mi_le (x % P) (tt l i)
    have h8 := ma_ge 0 (mi (x % P) (tt l i) - fr l i)
    rw [m_ref13_below_L1_eq]
    simp only [Int.toNat_natCast, fr_def, tt_def]
    refine bT (dT (by omega)) (gX (by omega) (gK hi (gI (by omega) (gI (by omega) (gI (by omega) (gI (by omega) (gI (by omega) ?_)))))))
    rw [take_succ' l hi, meas_snoc, rk_snoc]
    have e1 : rk1 (fr l i, tt l i) (x % P) = ma 0 (mi (x % P) (tt l i) - fr l i) := by
      unfold rk1
      have : mi (tt l i) (x % P) = mi (x % P) (tt l i) := by unfold mi; split <;> split <;> omega
      show ma 0 (mi (tt l i) (x % P) - fr l i) = _
      rw [this]
    rw [e1]
    have e2 : meas (l.take i) + tt l i - fr l i = meas (l.take i) + (tt l i - fr l i) := by omega
    rw [e2]; rfl) (by
    rw [m_ref13_below_L1_eq]
    refine bF (dF (by omega)) ?_
    simp only [List.take_length])
  rw [m_ref13_below_eq, hbel]
  exact bB (p_ref01_Div x P (by omega) (by omega) p1 (by omega)) (bB hh (gI (by omega) (gI (by omega) rfl)))
theorem pl_PeriodicWindows (P a b : Int) (l : List Sp) : m_law13_PeriodicWindows std P a b l = some true := by
  rw [m_law13_PeriodicWindows_eq, p_law13_awake, p_law13_long, p_ref13_Valid, p_ref13_Span]
  by_cases h : 40 < l.length
  · exact bB (v := true) (bB rfl (bF rfl (bB rfl (by rw [dT h])))) (bT rfl rfl)
  · refine bB (v := false) (bB rfl (bF rfl (bB rfl (by rw [dF h])))) (bF rfl ?_)
    by_cases hg : VP P l ∧ (-4398046511104 ≤ a ∧ b ≤ 4398046511104 ∧ a < b)
    · obtain ⟨v, hs⟩ := hg
      have p1 := v.p1
      have p2 := v.p2
      obtain ⟨W, e, e1, e2, hlen, hW⟩ := p_Windows v hs
      have t1 := bel_bd v (x := a) (by omega) (by omega)
      have t2 := bel_bd v (x := b) (by omega) (by omega)
      rw [e1, e2, p_periodic_Count v hs]
      have hcnt : m_ref13_Count std P a b l = some (bel P l b - bel P l a) := by
        rw [m_ref13_Count_eq]
        exact bB (p_ref13_below v (by omega) (by omega)) (bB (p_ref13_below v (by omega) (by omega)) (gI (by omega) rfl))
      refine bB rfl (bB rfl (bB rfl (bB (v := false) (bF (nF (eT rfl)) (bB (eq_self' W (by omega)) rfl)) (bF rfl (bB (v := false) (bB rfl (bF (nF (pvB_t v)) (bB rfl (congrArg some (nF (svB_iff.2 hs)))))) (bF rfl (bB (v := true) (bT rfl (bB hcnt (bT (eT rfl) ?_))) rfl)))))))
      by_cases he : e = 0
      · obtain ⟨c1, c2, c3⟩ := hW he
        have hmeas : bel P l b - bel P l a = meas W := by
          have hst := step_eq (F := bel P l) (G := rk W) (a := a) (b := b) (by omega) fun x x1 x2 => by
            rw [bel_step v.toStd, rk_step c1]
            congr 1
            rw [Bool.eq_iff_iff, psB_iff, memB_iff, c3]
            exact ⟨fun h => ⟨x1, x2, h⟩, fun h => h.2.2⟩
          have r1 : rk W a = 0 := rk_low (fun s hs' => ((c3 s.1).1 ⟨s, hs', Int.le_refl _, c1.ne s hs'⟩).1) c1.ne
          have r2 : rk W b = meas W := rk_high (fun s hs' => by
            have hne := c1.ne s hs'
            have := ((c3 (s.2 - 1)).1 ⟨s, hs', by omega, by omega⟩).2.1
            omega) c1.ne
          omega
        refine bF (nF (eT he)) (bB (p_runs_Measure c1 c2 hlen) (bT (eT hmeas) (bB (p_runs_Valid' W) ?_)))
        rw [dT hlen, canB_iff.2 ⟨c1, c2⟩]; rfl
      · exact bT (nT (eF he)) rfl
    · have e1 : m_periodic_Window std P a b l = some ([], 1) := by
        rw [m_periodic_Window_eq, p_periodic_Valid, p_interval_Valid]
        refine bB (v := true) (bB rfl ?_) (bT rfl rfl)
        by_cases v : VP P l
        · exact bF (nF (pvB_t v)) (bB rfl (congrArg some (nT (svB_false.2 fun hs => hg ⟨v, hs⟩))))
        · exact bT (nT (pvB_f v)) rfl
      have e2 : m_ref13_Window std P a b l = some ([], 1) := by
        rw [m_ref13_Window_eq, p_ref13_Valid, p_ref13_Span]
        refine bB (v := true) (bB rfl ?_) (bT rfl rfl)
        by_cases v : VP P l
        · exact bF (nF (pvB_t v)) (bB rfl (congrArg some (nT (svB_false.2 fun hs => hg ⟨v, hs⟩))))
        · exact bT (nT (pvB_f v)) rfl
      rw [e1, e2, p_periodic_Count_bad hg]
      refine bB rfl (bB rfl (bB rfl (bB (v := false) (bF (nF (eT rfl)) (bB (eq_self' [] (by simp)) rfl)) (bF rfl (bB (v := true) (bB rfl ?_) (bT rfl (bB (v := true) (bT rfl rfl) rfl)))))))
      by_cases v : VP P l
      · exact bF (nF (pvB_t v)) (bB rfl (congrArg some (nT (svB_false.2 fun hs => hg ⟨v, hs⟩))))
      · exact bT (nT (pvB_f v)) rfl
end
end Go.Proofs.Ytfhfifcfkimgpaa
