/-
  PeriodicOf, PeriodicValid, PeriodicCombines: the plain laws.
  Periodic sets: what the answers of the operations contain; PeriodicWithin, PeriodicPoints, PeriodicLaws: the plain laws.
-/
import Derived.Test.YtlpbdikmhngmfaaQA
namespace Go.Proofs.Ytlpbdikmhngmfaa
open Go.RowKit
section
theorem union_eq (Pa Pb : Int) (la lb : List Sp) : m_periodic_Union std Pa Pb la lb = m_ref13_Combine std Pa Pb 0 la lb := by
  obtain ⟨r, e, h⟩ := p_periodic_Union Pa Pb la lb
  obtain ⟨r', e', h'⟩ := p_ref13_Combine 0 Pa Pb la lb
  rw [e, e', h.uniq h']
theorem meet_eq (Pa Pb : Int) (la lb : List Sp) : m_periodic_Meet std Pa Pb la lb = m_ref13_Combine std Pa Pb 1 la lb := by
  obtain ⟨r, e, h⟩ := p_periodic_Meet Pa Pb la lb
  obtain ⟨r', e', h'⟩ := p_ref13_Combine 1 Pa Pb la lb
  rw [e, e', h.uniq h']
theorem minus_eq (Pa Pb : Int) (la lb : List Sp) : m_periodic_Minus std Pa Pb la lb = m_ref13_Combine std Pa Pb 2 la lb := by
  obtain ⟨r, e, h⟩ := p_periodic_Minus Pa Pb la lb
  obtain ⟨r', e', h'⟩ := p_ref13_Combine 2 Pa Pb la lb
  rw [e, e', h.uniq h']
theorem not_eq (P : Int) (l : List Sp) : m_periodic_Not std P l = m_ref13_Not std P l := by
  obtain ⟨r, e, h⟩ := p_periodic_Not P l
  obtain ⟨r', e', h'⟩ := p_ref13_Not P l
  rw [e, e', h.uniq h']
set_option maxRecDepth 100000 in
theorem ref_comb_6 : m_ref13_Combine std 2 3 0 [(0, 1)] [(0, 1)] = some (6, [(0, 1), (2, 5)], 0) := by kernel_rfl
theorem is_of_14 : IsOf 14 [(0, 2), (7, 9)] (7, [(0, 2)], 0) := by
  have hs : Std 14 [((0 : Int), (2 : Int)), (7, 9)] := ⟨by decide, ⟨by decide, by simp⟩, by decide⟩
  obtain ⟨d, hb, e⟩ := p_ref13_Least hs (by decide) (by decide)
  have e2 : m_ref13_Least std 14 [((0 : Int), (2 : Int)), (7, 9)] = some (7, [(0, 2)]) := by kernel_rfl
  rw [e2] at e
  injection e with e
  injection e with e3 e4
  refine IsOf.mk' (l' := [(0, 2), (7, 9)]) (by decide) (by decide) hs (fun x => ?_) (by decide) ⟨d, hb, by rw [← e4, ← e3]; rfl⟩
  unfold Mem MemF InF
  simp only [List.mem_cons, List.not_mem_nil, or_false]
  constructor
  · rintro ⟨s, h | h, h1, h2⟩
    · subst h; exact ⟨_, .inl rfl, x, h1, h2, Int.emod_eq_of_lt h1 (by simp only [] at h2; omega)⟩
    · subst h; exact ⟨_, .inr rfl, x, h1, h2, Int.emod_eq_of_lt (by simp only [] at h1; omega) (by simp only [] at h2; omega)⟩
  · rintro ⟨s, h | h, y, h1, h2, h3⟩
    · subst h; simp only [] at h1 h2; exact ⟨_, .inl rfl, by simp only []; omega, by simp only []; omega⟩
    · subst h; simp only [] at h1 h2; exact ⟨_, .inr rfl, by simp only []; omega, by simp only []; omega⟩
theorem of_14 : m_periodic_Of std 14 [(0, 2), (7, 9)] = some (7, [(0, 2)], 0) := by
  obtain ⟨r, e, h⟩ := p_periodic_Of 14 [(0, 2), (7, 9)] (by decide)
  rw [e, h.uniq is_of_14]
theorem p_law13_awake : m_law13_awake std = some true := by
  rw [m_law13_awake_eq, of_14]
  refine bB rfl (bB (m_law13_set_eq _ _) (bB (m_law13_set_eq _ _) ?_))
  rw [union_eq, ref_comb_6]
  exact bB rfl (bB (v := true) (bT (eT rfl) (bB (m_law13_set_eq _ _) (bB (p_ref13_Equal _ _ _ _ (by decide)) (bT (by decide) (bT (eT rfl) (bB (m_law13_set_eq _ _) (bB (p_ref13_Equal _ _ _ _ (by decide)) (congrArg some (by decide))))))))) rfl)
theorem p_law13_long (P : Int) (l : List Sp) : m_law13_long std P l = some (decide (40 < l.length)) := by
  rw [m_law13_long_eq]
  congr 1
  rw [decide_eq_decide]; omega
theorem eq_self' (l : List Sp) (h : l.length ≤ 1000000) : m_slices_Equal std l l = some true := by rw [p_slices_Equal l l (by omega), dT rfl]

/-- the answers' lists are short -/
theorem IsNF.len {P : Int} {l : List Sp} {r : Int × List Sp × Int} (h : IsNF P l r) : r.2.1.length ≤ 2000 := by
  obtain ⟨d, hb, rfl⟩ := h
  split
  · simp
  · show (cutTo d l).length ≤ 2000; omega
theorem IsOf.len {P : Int} {l : List Sp} {r : Int × List Sp × Int} (h : IsOf P l r) : r.2.1.length ≤ 2000 := by
  unfold IsOf at h
  split at h
  · rw [h]; simp
  · split at h
    · rw [h]; simp
    · obtain ⟨a, a1, a2, _, a4⟩ := h
      exact a4.len
theorem IsComb.len {rl : Bool → Bool → Bool} {Pa Pb : Int} {la lb : List Sp} {r : Int × List Sp × Int} (h : IsComb rl Pa Pb la lb r) : r.2.1.length ≤ 2000 := by
  rcases h with ⟨a, e⟩ | ⟨a, b, e⟩ | ⟨a, b, c, e⟩ | ⟨a, b, c, l1, e1, e2, e3⟩
  · rw [e]; simp
  · rw [e]; simp
  · rw [e]; simp
  · exact e3.len
theorem IsNot.len {P : Int} {l : List Sp} {r : Int × List Sp × Int} (h : IsNot P l r) : r.2.1.length ≤ 2000 := by
  rcases h with ⟨a, e⟩ | ⟨a, l1, e1, e2, _, e3⟩
  · rw [e]; simp
  · exact e3.len
theorem IsMv.len {P n : Int} {l : List Sp} {r : Int × List Sp × Int} (h : IsMv P n l r) : r.2.1.length ≤ 2000 := by
  rcases h with ⟨a, e⟩ | ⟨a, b, e⟩ | ⟨a, b, l1, e1, e2, _, e⟩
  · rw [e]; simp
  · rw [e]; simp
  · rw [e]
    split
    · simp
    · show l1.length ≤ 2000; omega

theorem bsame (b : Bool) : (b == b) = true := by cases b <;> rfl
/-- the law's comparison -/
theorem p_law13_same (p e : Int) (l : List Sp) (h : l.length ≤ 1000000) : m_law13_PeriodicCombines_1 std p e p e l l = some true := by
  rw [m_law13_PeriodicCombines_1_eq]
  exact bB (v := true) (bT (eT rfl) (bT (eT rfl) (bB (eq_self' l h) rfl))) rfl
theorem pl_PeriodicCombines (P Q n : Int) (l l' : List Sp) : m_law13_PeriodicCombines std P Q n l l' = some true := by
  rw [m_law13_PeriodicCombines_eq, p_law13_awake, p_law13_long, p_law13_long]
  by_cases h : 40 < l.length
  · exact bB (v := true) (bB rfl (bF rfl (bB rfl (bT (dT h) rfl)))) (bT rfl rfl)
  · by_cases h' : 40 < l'.length
    · exact bB (v := true) (bB rfl (bF rfl (bB rfl (bF (dF h) (bB rfl (by rw [dT h'])))))) (bT rfl rfl)
    · refine bB (v := false) (bB rfl (bF rfl (bB rfl (bF (dF h) (bB rfl (by rw [dF h'])))))) (bF rfl ?_)
      rw [← union_eq, ← meet_eq, ← minus_eq, ← not_eq]
      obtain ⟨⟨u1, u2, u3⟩, eu, hu⟩ := p_periodic_Union P Q l l'
      obtain ⟨⟨m1, m2, m3⟩, em, hm⟩ := p_periodic_Meet P Q l l'
      obtain ⟨⟨d1, d2, d3⟩, ed, hd⟩ := p_periodic_Minus P Q l l'
      obtain ⟨⟨c1, c2, c3⟩, ec, hc⟩ := p_periodic_Not P l
      obtain ⟨⟨v1, v2, v3⟩, ev, hv⟩ := p_periodic_Move P n l
      have lu : u2.length ≤ 2000 := hu.len
      have lm : m2.length ≤ 2000 := hm.len
      have ld : d2.length ≤ 2000 := hd.len
      have lc : c2.length ≤ 2000 := hc.len
      have lv : v2.length ≤ 2000 := hv.len
      rw [eu, em, ed, ec, ev]
      refine bB rfl (bB rfl (bB (p_law13_same _ _ _ (by omega)) (bF rfl (gI (by omega) (bB rfl (bB rfl (bB (p_law13_same _ _ _ (by omega)) (bF rfl (gI (by omega) (bB rfl (bB rfl (bB (p_law13_same _ _ _ (by omega)) (bF rfl (gI (by omega) (bB rfl (bB rfl (bB rfl ?_)))))))))))))))))
      rcases p_ref13_Move P n l with ⟨⟨w1, w2, w3⟩, ew, hw⟩ | ⟨ew, hw⟩
      · have he := hv.uniq hw
        injection he with he1 he2
        injection he2 with he2 he3
        subst he1; subst he2; subst he3
        rw [ew]
        exact bB (v := .inl (v3, v1, v2)) rfl (bB (v := true) (bB (p_law13_same _ _ _ (by omega)) (bT rfl (bB (p_law13_same _ _ _ (by omega)) rfl))) rfl)
      · have he := hv.uniq hw
        injection he with he1 he2
        injection he2 with he2 he3
        subst he1; subst he2; subst he3
        rw [ew]
        exact bB (v := .inr (0, v1)) rfl (bB (v := true) (bB (p_law13_same _ _ _ (by omega)) (bT rfl (bB (p_law13_same _ _ _ (by omega)) rfl))) rfl)
end
section
/-- a good answer: a valid set with the numbers for which f holds -/
structure Good2 (f : Int → Bool) (P : Int) (l : List Sp) (e : Int) : Prop where
  v : VP P l
  e0 : e = 0
  mem : ∀ x, psB P l x = f x
def Ans (f : Int → Bool) (r : Int × List Sp × Int) : Prop := r = (0, [], 5) ∨ r = (0, [], 9) ∨ Good2 f r.1 r.2.1 r.2.2
theorem psB_eq {P Q : Int} {l l' : List Sp} (h : ∀ x, PS P l x ↔ PS Q l' x) (x : Int) : psB P l x = psB Q l' x := by rw [Bool.eq_iff_iff, psB_iff, psB_iff]; exact h x
theorem IsNF.good {m : Int} {l' : List Sp} {r : Int × List Sp × Int} (h : IsNF m l' r) (hs : Std m l') (hm : m ≤ 12622780800) : r = (0, [], 5) ∨ Good2 (psB m l') r.1 r.2.1 r.2.2 := by
  obtain ⟨d, hb, rfl⟩ := h
  split
  · exact .inl rfl
  · rename_i hn
    have hd : d ≤ m := Int.le_of_dvd (by have := hs.p1; omega) hb.dvd
    exact .inr ⟨⟨norm_PV hs hb, by show d ≤ _; omega, by show (cutTo d l').length ≤ 2000; omega⟩, rfl, psB_eq (norm_PS hs hb)⟩
theorem psB_dvd {P m : Int} {l : List Sp} (h : P ∣ m) (x : Int) : psB P l (x % m) = psB P l x := by
  unfold psB
  rw [Int.emod_emod_of_dvd x h]
theorem IsComb.good {rl : Bool → Bool → Bool} {Pa Pb : Int} {la lb : List Sp} {r : Int × List Sp × Int} (h : IsComb rl Pa Pb la lb r) (va : VP Pa la) (vb : VP Pb lb) : Ans (fun x => rl (psB Pa la x) (psB Pb lb x)) r := by
  rcases h with ⟨a, e⟩ | ⟨a, b, e⟩ | ⟨a, b, c, e⟩ | ⟨a, b, c, l1, e1, e2, e3⟩
  · exact absurd ⟨va, vb⟩ a
  · exact .inr (.inl e)
  · exact .inl e
  · obtain ⟨f1, f2, f3, _⟩ := com_facts va.p1 vb.p1
    rcases e3.good e1 b with h | h
    · exact .inl h
    · refine .inr (.inr ⟨h.v, h.e0, fun x => (h.mem x).trans ?_⟩)
      have h1 := Int.emod_nonneg x (show comP Pa Pb ≠ 0 by omega)
      have h2 := Int.emod_lt_of_pos x (show 0 < comP Pa Pb by omega)
      have ea : psB Pa la (x % comP Pa Pb) = psB Pa la x := psB_dvd ⟨_, f1⟩ x
      have eb : psB Pb lb (x % comP Pa Pb) = psB Pb lb x := psB_dvd ⟨_, f2⟩ x
      rw [← ea, ← eb, Bool.eq_iff_iff]
      show memB l1 (x % comP Pa Pb) = true ↔ _
      rw [memB_iff, e2]
      exact ⟨fun h => h.2.2, fun h => ⟨h1, h2, h⟩⟩
theorem IsNot.good {P : Int} {l : List Sp} {r : Int × List Sp × Int} (h : IsNot P l r) (v : VP P l) : r = (0, [], 5) ∨ Good2 (fun x => !psB P l x) r.1 r.2.1 r.2.2 := by
  rcases h with ⟨a, e⟩ | ⟨a, l1, e1, e2, _, e3⟩
  · exact absurd v a
  · rcases e3.good e1 v.p2 with h | h
    · exact .inl h
    · refine .inr ⟨h.v, h.e0, fun x => (h.mem x).trans ?_⟩
      have p1 := v.p1
      have h1 := Int.emod_nonneg x (show P ≠ 0 by omega)
      have h2 := Int.emod_lt_of_pos x (show 0 < P by omega)
      rw [Bool.eq_iff_iff]
      show memB l1 (x % P) = true ↔ (!memB l (x % P)) = true
      rw [memB_iff, e2, Bool.not_eq_true', memB_false]
      exact ⟨fun h => h.2.2, fun h => ⟨h1, h2, h⟩⟩
theorem IsNot.short {P : Int} {l : List Sp} {r : Int × List Sp × Int} (h : IsNot P l r) (v : VP P l) (hl : l.length ≤ 900) : Good2 (fun x => !psB P l x) r.1 r.2.1 r.2.2 := by
  rcases h.good v with h1 | h1
  · exfalso
    rcases h with ⟨a, e⟩ | ⟨a, l1, e1, e2, e4, d, hb, e3⟩
    · exact absurd v a
    · rw [h1] at e3
      have := cutTo_len d l1
      rw [if_neg (by omega)] at e3
      injection e3 with _ e3
      injection e3 with _ e3
      cases e3
  · exact h1
theorem IsMv.short {P n : Int} {l : List Sp} {r : Int × List Sp × Int} (h : IsMv P n l r) (v : VP P l) (hn : -4398046511104 ≤ n ∧ n ≤ 4398046511104) (hl : l.length ≤ 400) : Good2 (fun x => psB P l (x - n)) r.1 r.2.1 r.2.2 := by
  rcases h with ⟨a, e⟩ | ⟨a, b, e⟩ | ⟨a, b, l1, e1, e2, e4, e⟩
  · exact absurd v a
  · exact absurd hn b
  · rw [if_neg (by omega)] at e
    subst e
    refine ⟨⟨⟨e1, mv_best v.p1 v.best e2⟩, v.p2, by show l1.length ≤ 2000; omega⟩, rfl, psB_eq' fun x => mv_PS v.p1 e2 x⟩
where psB_eq' {P : Int} {l l' : List Sp} {n : Int} (h : ∀ x, PS P l' x ↔ PS P l (x - n)) (x : Int) : psB P l' x = psB P l (x - n) := by rw [Bool.eq_iff_iff, psB_iff, psB_iff]; exact h x
/-- one set, one form -/
theorem Good2.same {f : Int → Bool} {P Q e e' : Int} {l l' : List Sp} (h : Good2 f P l e) (h' : Good2 f Q l' e') : P = Q ∧ l = l' :=
  PV.uniq h.v.toPV h'.v.toPV fun x => by rw [← psB_iff, ← psB_iff, h.mem, h'.mem]
theorem VP.good {P : Int} {l : List Sp} (v : VP P l) : Good2 (psB P l) P l 0 := ⟨v, rfl, fun _ => rfl⟩
theorem Good2.congr {f g : Int → Bool} {P e : Int} {l : List Sp} (h : Good2 f P l e) (hfg : ∀ x, f x = g x) : Good2 g P l e := ⟨h.v, h.e0, fun x => (h.mem x).trans (hfg x)⟩
theorem Good2.equal {f : Int → Bool} {P Q e e' : Int} {l l' : List Sp} (h : Good2 f P l e) (h' : Good2 f Q l' e') : m_periodic_Equal std P Q l l' = some true := by
  obtain ⟨h1, h2⟩ := h.same h'
  subst h1; subst h2
  rw [p_periodic_Equal, pvB_t h.v, dT rfl]
  simp
/-- an empty list: the empty set -/
theorem Good2.empty {f : Int → Bool} {P e : Int} {l : List Sp} (h : Good2 f P l e) : l.length = 0 ↔ ∀ x, f x = false := by
  constructor
  · intro h0 x
    rw [← h.mem, List.eq_nil_of_length_eq_zero h0]; rfl
  · intro h0
    rcases Nat.eq_zero_or_pos l.length with h1 | h1
    · exact h1
    · have a := h.v.toStd.at h1
      have b := h0 (fr l 0)
      have p2 := h.v.p2
      rw [← h.mem] at b
      unfold psB at b
      rw [Int.emod_eq_of_lt a.1 (by omega)] at b
      exact absurd (mem_idx.2 ⟨0, h1, by omega, by omega⟩) (memB_false.1 b)

/-! Within -/
theorem IsComb.bad {rl : Bool → Bool → Bool} {Pa Pb : Int} {la lb : List Sp} {r : Int × List Sp × Int} (h : IsComb rl Pa Pb la lb r) (hv : ¬ (VP Pa la ∧ VP Pb lb)) : r = (0, [], 1) := by
  rcases h with ⟨a, e⟩ | ⟨a, b, e⟩ | ⟨a, b, c, e⟩ | ⟨a, b, c, l1, e1, e2, e3⟩
  · exact e
  · exact absurd a hv
  · exact absurd a hv
  · exact absurd a hv
end
end Go.Proofs.Ytlpbdikmhngmfaa
