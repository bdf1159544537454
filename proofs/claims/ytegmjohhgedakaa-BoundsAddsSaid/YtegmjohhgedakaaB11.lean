/-
  Networks of bounds: adding a bound to the tight matrix is the tight matrix of both.
-/
import Derived.Test.YtegmjohhgedakaaB10
namespace Go.Proofs.Ytegmjohhgedakaa
open Go.RowKit Fw

section
variable {n : Nat} {f : Mx} {e : Bd}
theorem add_or (hC : Clo n f) (he : EdB n e) {i j : Nat} (hi : i < n) (hj : j < n) (hf : addF f e i j ≠ inf) :
    (f i j ≠ inf ∧ addF f e i j = f i j) ∨ (f i e.1.toNat ≠ inf ∧ f e.2.1.toNat j ≠ inf ∧ addF f e i j = f i e.1.toNat + e.2.2 + f e.2.1.toNat j) := by
  obtain ⟨i0, i1, j0, j1, w0, w1⟩ := he
  have hI : e.1.toNat < n := by omega
  have hJ : e.2.1.toNat < n := by omega
  have ht := hC.top i j hi hj
  unfold addF at hf ⊢
  have hw : e.2.2 ≠ inf := by unfold inf; omega
  rcases mn_or (f i j) (pl (pl (f i e.1.toNat) e.2.2) (f e.2.1.toNat j)) with g | ⟨g, g2⟩
  · rw [g] at hf ⊢; exact .inl ⟨hf, rfl⟩
  · right
    by_cases x1 : f i e.1.toNat = inf
    · rw [pl_inf (.inl x1), pl_inf (.inl rfl)] at g2; omega
    · by_cases x2 : f e.2.1.toNat j = inf
      · rw [pl_inf (.inr x2)] at g2; omega
      · have b1 := hC.bd _ _ hi hI x1
        rw [pl_fin x1 hw, pl_fin (by unfold inf; omega) x2] at g
        refine ⟨x1, x2, ?_⟩
        rw [pl_fin x1 hw, pl_fin (by unfold inf; omega) x2]
        exact g
theorem add_le (f : Mx) (e : Bd) (i j : Nat) : addF f e i j ≤ f i j := mn_le_l _ _
theorem add_le2 (hC : Clo n f) (he : EdB n e) {i j : Nat} (hi : i < n) (_hj : j < n) (x1 : f i e.1.toNat ≠ inf) (x2 : f e.2.1.toNat j ≠ inf) : addF f e i j ≤ f i e.1.toNat + e.2.2 + f e.2.1.toNat j := by
  obtain ⟨i0, i1, j0, j1, w0, w1⟩ := he
  have hI : e.1.toNat < n := by omega
  have hw : e.2.2 ≠ inf := by unfold inf; omega
  have b1 := hC.bd _ _ hi hI x1
  have := mn_le_r (f i j) (pl (pl (f i e.1.toNat) e.2.2) (f e.2.1.toNat j))
  rw [pl_fin x1 hw, pl_fin (by unfold inf; omega) x2] at this
  unfold addF
  rw [pl_fin x1 hw, pl_fin (by unfold inf; omega) x2]
  exact this
theorem add_cl (hC : Clo n f) (he : EdB n e) (hp : ¬ pl (f e.2.1.toNat e.1.toNat) e.2.2 < 0) : Cl n (addF f e) := by
  have he' := he
  obtain ⟨i0, i1, j0, j1, w0, w1⟩ := he'
  have hI : e.1.toNat < n := by omega
  have hJ : e.2.1.toNat < n := by omega
  have hw : e.2.2 ≠ inf := by unfold inf; omega
  have fin : ∀ {i k j}, i < n → k < n → j < n → f i k ≠ inf → f k j ≠ inf → f i j ≠ inf ∧ f i j ≤ f i k + f k j := fun hi hk hj x1 x2 => by
    have b1 := hC.bd _ _ hi hk x1
    have b2 := hC.bd _ _ hk hj x2
    have := hC.cl _ _ _ hi hk hj x1 x2
    exact ⟨by unfold inf; omega, this⟩
  intro i k j hi hk hj h1 h2
  rcases add_or hC he hi hk h1 with ⟨a1, a2⟩ | ⟨a1, a2, a3⟩ <;> rcases add_or hC he hk hj h2 with ⟨b1, b2⟩ | ⟨b1, b2, b3⟩
  · rw [a2, b2]
    have := fin hi hk hj a1 b1
    have := add_le f e i j
    omega
  · rw [a2, b3]
    obtain ⟨g1, g2⟩ := fin hi hk hI a1 b1
    have := add_le2 hC he hi hj g1 b2
    omega
  · rw [a3, b2]
    obtain ⟨g1, g2⟩ := fin hJ hk hj a2 b1
    have := add_le2 hC he hi hj a1 g1
    omega
  · rw [a3, b3]
    obtain ⟨g1, g2⟩ := fin hJ hk hI a2 b1
    have := add_le2 hC he hi hj a1 b2
    rw [pl_fin g1 hw] at hp
    omega
theorem add_dia (hC : Clo n f) (he : EdB n e) (hp : ¬ pl (f e.2.1.toNat e.1.toNat) e.2.2 < 0) {i : Nat} (hi : i < n) : addF f e i i = 0 := by
  have he' := he
  obtain ⟨i0, i1, j0, j1, w0, w1⟩ := he'
  have hI : e.1.toNat < n := by omega
  have hJ : e.2.1.toNat < n := by omega
  have hw : e.2.2 ≠ inf := by unfold inf; omega
  have h1 := add_le f e i i
  rw [hC.dia i hi] at h1
  rcases add_or hC he hi hi (by unfold inf; omega) with ⟨_, a2⟩ | ⟨a1, a2, a3⟩
  · rw [a2, hC.dia i hi]
  · have b1 := hC.bd _ _ hJ hi a2
    have b2 := hC.bd _ _ hi hI a1
    have g := hC.cl _ _ _ hJ hi hI a2 a1
    have g1 : f e.2.1.toNat e.1.toNat ≠ inf := by unfold inf; omega
    rw [pl_fin g1 hw] at hp
    omega
end
theorem add_ti {n : Nat} (hn : n ≤ 24) {l : List Bd} (hl : LOk n l) (hc : Cons n (M0 l)) {e : Bd} (he : EdB n e) :
    (pl (Ti n l e.2.1.toNat e.1.toNat) e.2.2 < 0 ∧ ¬ Cons n (M0 (l ++ [e]))) ∨ (¬ pl (Ti n l e.2.1.toNat e.1.toNat) e.2.2 < 0 ∧ Cons n (M0 (l ++ [e])) ∧ mat n (addF (Ti n l) e) = mat n (Ti n (l ++ [e]))) := by
  have hC := ti_clo hl hn hc
  have he' := he
  obtain ⟨i0, i1, j0, j1, w0, w1⟩ := he'
  have hI : e.1.toNat < n := by omega
  have hJ : e.2.1.toNat < n := by omega
  have hw : e.2.2 ≠ inf := by unfold inf; omega
  have hmem : ∀ x, x ∈ l ++ [e] → x ∈ l ∨ x = e := fun x hx => by rw [List.mem_append, List.mem_singleton] at hx; exact hx
  have hl' : LOk n (l ++ [e]) := fun x hx => by
    rcases hmem x hx with g | rfl
    · exact hl x g
    · exact edok.2 he
  have hle : Cons n (M0 (l ++ [e])) → ∀ i j, i < n → j < n → Ti n (l ++ [e]) i j ≤ Ti n l i j := fun hc' i j hi hj => by
    have hC' := ti_clo hl' hn hc'
    exact ti_max' hl hC'.cl (clo_top hl') (fun i hi => Int.le_of_eq (hC'.dia i hi)) (fun x hx => ti_edge (List.mem_append_left _ hx)) hi hj
  have hed : Ti n (l ++ [e]) e.1.toNat e.2.1.toNat ≤ e.2.2 := ti_edge (List.mem_append_right _ (List.mem_singleton.2 rfl))
  by_cases hp : pl (Ti n l e.2.1.toNat e.1.toNat) e.2.2 < 0
  · refine .inl ⟨hp, fun hc' => ?_⟩
    have hC' := ti_clo hl' hn hc'
    by_cases x1 : Ti n l e.2.1.toNat e.1.toNat = inf
    · rw [pl_inf (.inl x1)] at hp; unfold inf at hp; omega
    · rw [pl_fin x1 hw] at hp
      have b1 := hC.bd _ _ hJ hI x1
      have h1 := hle hc' _ _ hJ hI
      have h2 := hC'.cl e.2.1.toNat e.1.toNat e.2.1.toNat hJ hI hJ (by unfold inf; omega) (by unfold inf; omega)
      rw [hC'.dia _ hJ] at h2
      omega
  · right
    have hcl := add_cl hC he hp
    have hdi : ∀ i, i < n → addF (Ti n l) e i i = 0 := fun i hi => add_dia hC he hp hi
    have hedge : ∀ x, x ∈ l ++ [e] → addF (Ti n l) e x.1.toNat x.2.1.toNat ≤ x.2.2 := fun x hx => by
      rcases hmem x hx with g | rfl
      · exact Int.le_trans (add_le _ _ _ _) (ti_edge g)
      · have := add_le2 hC he hI hJ (by rw [hC.dia _ hI]; unfold inf; omega) (by rw [hC.dia _ hJ]; unfold inf; omega)
        rw [hC.dia _ hI, hC.dia _ hJ] at this
        omega
    have hc' : Cons n (M0 (l ++ [e])) := cons_of hcl (M0_lb hl' (fun i hi => Int.le_of_eq (hdi i hi)) hedge) (M0_ini hl').dia (fun i hi => Int.le_of_eq (hdi i hi).symm)
    have hC' := ti_clo hl' hn hc'
    refine ⟨hp, hc', mat_ext fun i j hi hj => Int.le_antisymm ?_ ?_⟩
    · exact ti_max' hl' hcl (fun i j hi hj => Int.le_trans (add_le _ _ _ _) (hC.top i j hi hj)) (fun i hi => Int.le_of_eq (hdi i hi)) hedge hi hj
    · by_cases hf : addF (Ti n l) e i j = inf
      · rw [hf]; exact hC'.top i j hi hj
      · rcases add_or hC he hi hj hf with ⟨_, a2⟩ | ⟨a1, a2, a3⟩
        · rw [a2]; exact hle hc' i j hi hj
        · rw [a3]
          have b1 := hC.bd _ _ hi hI a1
          have b2 := hC.bd _ _ hJ hj a2
          have h1 := hle hc' _ _ hi hI
          have h2 := hle hc' _ _ hJ hj
          have f1 : Ti n (l ++ [e]) i e.1.toNat ≠ inf := by unfold inf; omega
          have f2 : Ti n (l ++ [e]) e.2.1.toNat j ≠ inf := by unfold inf; omega
          have f3 : Ti n (l ++ [e]) e.1.toNat e.2.1.toNat ≠ inf := by unfold inf; omega
          have g1 := hC'.cl i e.1.toNat e.2.1.toNat hi hI hJ f1 f3
          have c1 := hC'.bd _ _ hi hI f1
          have f4 : Ti n (l ++ [e]) i e.2.1.toNat ≠ inf := by unfold inf; omega
          have g2 := hC'.cl i e.2.1.toNat j hi hJ hj f4 f2
          omega
theorem clo_bdd {n : Nat} {f : Mx} (h : Clo n f) : Bdd n 68719476736 f := fun i j hi hj => by
  have := clo_bd2 h hi hj; omega
theorem ent_bdd {m : List (List Int)} (h : ClM m) : Bdd m.length 68719476736 (ent m) := fun _ _ hi hj => ent_bd h.row hi hj
theorem vld1 {n : Int} {x y z : Int} (h1 : 1 ≤ n) (h2 : n ≤ 24) : Vld n [(x, y, z)] ↔ EdB n.toNat (x, y, z) := by
  constructor
  · intro h
    exact edok.1 (h.ok _ (List.mem_singleton.2 rfl))
  · intro h
    refine ⟨h1, h2, by simp, fun e he => ?_⟩
    rw [List.mem_singleton] at he
    subst he
    exact edok.2 h
theorem pl_BoundsAdds (n x y z : Int) (l : List Bd) (m : List (List Int)) (_ : -9223372036854775808 ≤ n) (_ : n ≤ 9223372036854775807) : m_law45_BoundsAdds std n x y z l m = some true := by
  rw [m_law45_BoundsAdds_eq, p_awake]
  by_cases hlong : (190 : Int) < ((l.length : Nat) : Int)
  · rw [decide_eq_true hlong]; rfl
  rw [decide_eq_false hlong]
  by_cases hlong2 : (40 : Int) < ((m.length : Nat) : Int)
  · rw [decide_eq_true hlong2]; rfl
  rw [decide_eq_false hlong2]
  have h5 : m_slices_ContainsFunc_5 std m = some ((List.range m.length).any fun i => decide (40 < (((m.getD i []).length : Nat) : Int))) := by
    rw [m_slices_ContainsFunc_5_eq, m_slices_IndexFunc_5_eq]
    refine contains _ (by omega) (fun i hi => ?_) ?_
    · rw [m_slices_IndexFunc_5_L1_eq]
      simp only [toN]
      refine bT (dT (by omega)) (gX (by omega) (gK hi (bB (v := decide (40 < (((m.getD i []).length : Nat) : Int))) rfl ?_)))
      cases decide (40 < (((m.getD i []).length : Nat) : Int)) with
      | true => rfl
      | false => exact gI (by omega) rfl
    · rw [m_slices_IndexFunc_5_L1_eq]
      exact bF (dF (by omega)) rfl
  cases hx : (List.range m.length).any fun i => decide (40 < (((m.getD i []).length : Nat) : Int)) with
  | true =>
    rw [hx] at h5
    exact bB (v := true) (bB rfl (bF rfl (bF rfl (bF rfl (bB h5 rfl))))) rfl
  | false =>
    rw [hx] at h5
    refine bB (v := false) (bB rfl (bF rfl (bF rfl (bF rfl (bB h5 rfl))))) (bF rfl ?_)
    have hV1 := p_refValid (n := ((m.length : Nat) : Int)) (l := [(x, y, z)]) (by simp)
    -- what the given matrix yields
    have hA : ∃ r, m_bounds_Add std x y z m = some r ∧ ((clB m = true ∧ Vld ((m.length : Nat) : Int) [(x, y, z)]) ∨ (r = ([], 1) ∧ (clB m = false ∨ ¬ Vld ((m.length : Nat) : Int) [(x, y, z)]))) := by
      cases hcm : clB m with
      | false => exact ⟨_, not_Add (.inl hcm), .inr ⟨rfl, .inl rfl⟩⟩
      | true =>
        have hM := clB_t.1 hcm
        have n1 := hM.n1
        have n24 := hM.n24
        have hv1 := vld1 (n := ((m.length : Nat) : Int)) (x := x) (y := y) (z := z) (by omega) (by omega)
        by_cases he : EdB m.length (x, y, z)
        · have hmm := clM_mat hM
          have := p_Add (n := m.length) n1 n24 (ent_bdd hM) (by rw [← hmm]; exact hcm) he
          rw [← hmm] at this
          exact ⟨_, this, .inl ⟨rfl, hv1.2 (by rw [toN]; exact he)⟩⟩
        · exact ⟨_, not_Add (.inr ⟨hcm, he⟩), .inr ⟨rfl, .inr fun h => he (by have := hv1.1 h; rw [toN] at this; exact this)⟩⟩
    obtain ⟨r, hA, hr⟩ := hA
    refine bB hA (bB (v := false) (bB (p_refClosed m) ?_) (bF rfl ?_))
    · rcases hr with ⟨hcm, hv⟩ | ⟨rfl, hr⟩
      · rw [hcm]
        rcases hV1 with ⟨_, g⟩ | ⟨g, _⟩
        · exact bF rfl (bB g rfl)
        · exact absurd hv g
      · cases hcm : clB m with
        | false => rfl
        | true =>
          rcases hV1 with ⟨g, _⟩ | ⟨_, g⟩
          · rcases hr with hr | hr
            · rw [hcm] at hr; cases hr
            · exact absurd g hr
          · exact bF rfl (bB g rfl)
    · have h1 := p_refValid (n := n) (l := l) (by omega)
      have h2 := p_refValid (n := n) (l := [(x, y, z)]) (by simp)
      rcases h1 with ⟨hv, g1⟩ | ⟨_, g1⟩
      · rcases h2 with ⟨hv2, g2⟩ | ⟨_, g2⟩
        · refine bB (v := false) (bB g1 (bF rfl (bB g2 rfl))) (bF rfl ?_)
          have e := hv.nat
          have n1 := hv.n1
          have n24 := hv.n24
          have hE := (vld1 n1 n24).1 hv2
          rcases hv.tight with ⟨hc, _, hT⟩ | ⟨hc, _, hT⟩
          · have hC := hv.clo hc
            have hAdd := p_Add (n := n.toNat) (by omega) (by omega) (clo_bdd hC) (clB_t.2 (clo_clM (by omega) (by omega) hC)) hE
            have hcl : m_clone_i3 std l = some l := by rw [m_clone_i3_eq]; exact gR (by omega) rfl
            have hl' : LOk n.toNat (l ++ [(x, y, z)]) := fun w hw => by
              rw [List.mem_append, List.mem_singleton] at hw
              rcases hw with g | rfl
              · exact hv.ok w g
              · exact edok.2 hE
            have hT2 := p_refTight hl' (by simp; omega) (show 1 ≤ n.toNat by omega) (by omega)
            rw [← e] at hT2
            refine bB hT (bF rfl (bB hAdd (bB hcl (gR (by omega) (gR (by simp) ?_)))))
            rcases add_ti (by omega) hv.ok hc hE with ⟨hp, hnc⟩ | ⟨hp, hc2, hmat⟩
            · rcases hT2 with ⟨g, _⟩ | ⟨_, hT2⟩
              · exact absurd g hnc
              · rw [decide_eq_true hp]
                exact bB hT2 (bT rfl rfl)
            · rcases hT2 with ⟨_, hT2⟩ | ⟨g, _⟩
              · rw [decide_eq_false hp]
                refine bB hT2 (bF rfl (bB (v := true) (bT rfl ?_) rfl))
                show Option.bind (m_ref45_Same std (mat n.toNat (addF (Ti n.toNat l) (x, y, z))) _) _ = _
                rw [hmat]
                exact bB (p_Same (by omega) _) rfl
              · exact absurd hc2 g
          · exact bB hT (bT rfl rfl)
        · exact bB (v := true) (bB g1 (bF rfl (bB g2 rfl))) rfl
      · exact bB (v := true) (bB g1 rfl) rfl
end Go.Proofs.Ytegmjohhgedakaa
