/-
  Networks of bounds: the law of the triangle.
-/
import Derived.Test.YtegmjohhgedakaaB5
namespace Go.Proofs.Ytegmjohhgedakaa
open Go.RowKit Fw

theorem tmod_ix {i n : Int} (hi : 0 ≤ i) (hn : 1 ≤ n) : ∃ a : Nat, Int.tmod i n = (a : Int) ∧ a < n.toNat := by
  rw [Int.tmod_eq_emod_of_nonneg hi]
  have h1 := Int.emod_nonneg i (show n ≠ 0 by omega)
  have h2 := Int.emod_lt_of_pos i (show 0 < n by omega)
  exact ⟨(i % n).toNat, by omega, by omega⟩
theorem clo_top {n : Nat} {l : List Bd} (h : LOk n l) : ∀ i j, i < n → j < n → Ti n l i j ≤ inf := fun _ _ hi hj => ti_top h hi hj
/-- a closed matrix that obeys both networks' bounds is that of either -/
theorem ti_same {n : Nat} {l l' : List Bd} (h : LOk n l) (h' : LOk n l') (hn : n ≤ 24) (hc : Cons n (M0 l)) (h1 : ∀ e, e ∈ l → e ∈ l') (h2 : ∀ e, e ∈ l' → Ti n l e.1.toNat e.2.1.toNat ≤ e.2.2) :
    Cons n (M0 l') ∧ ∀ i j, i < n → j < n → Ti n l' i j = Ti n l i j := by
  have hC := ti_clo h hn hc
  have hc' := cons_clo h' hC h2
  have hC' := ti_clo h' hn hc'
  refine ⟨hc', fun i j hi hj => Int.le_antisymm ?_ ?_⟩
  · exact ti_max' h hC'.cl (clo_top h') (fun i hi => Int.le_of_eq (hC'.dia i hi)) (fun e he => ti_edge (h1 e he)) hi hj
  · exact ti_max' h' hC.cl (clo_top h) (fun i hi => Int.le_of_eq (hC.dia i hi)) h2 hi hj
theorem pl_BoundsTriangle (n i j : Int) (l : List Bd) (_ : -9223372036854775808 ≤ n) (_ : n ≤ 9223372036854775807) (hi0 : 0 ≤ i) (hi1 : i ≤ 255) (hj0 : 0 ≤ j) (hj1 : j ≤ 255) : m_law45_BoundsTriangle std n i j l = some true := by
  rw [m_law45_BoundsTriangle_eq, p_awake]
  by_cases hlong : (190 : Int) < ((l.length : Nat) : Int)
  · rw [decide_eq_true hlong]; rfl
  rw [decide_eq_false hlong]
  refine bB rfl (bF rfl ?_)
  rcases Classical.em (Vld n l) with hv | hv
  · rcases hv.Tight with ⟨hc, hT⟩ | ⟨hc, hT⟩
    · have e := hv.nat
      have h1 := hv.n1
      have h24 := hv.n24
      have hC := hv.clo hc
      have hok := hv.ok
      obtain ⟨a, ea, ha⟩ := tmod_ix hi0 h1
      obtain ⟨b, eb, hb⟩ := tmod_ix hj0 h1
      rw [ea, eb]
      obtain ⟨m, hm⟩ : ∃ m, m = n.toNat := ⟨_, rfl⟩
      rw [← hm] at e hT hC hok ha hb hc
      obtain ⟨f, hf⟩ : ∃ f, f = Ti m l := ⟨_, rfl⟩
      rw [← hf] at hT hC
      have bd := @clo_bd2 m f hC
      refine bB hT (bF (nF rfl) (bB (v := false) (bF (nF (eT (by rw [mat_len]; omega))) (bB (v := false) ?_ (bF rfl (bB hv.rvalid rfl)))) (bF rfl (bB (v := .inr ()) ?_ (gI (by omega) (gZ (by omega) (gI (by omega) (bB (v := .inr ()) ?_ ?_))))))))
      · rw [m_slices_ContainsFunc_4_eq, m_slices_IndexFunc_4_eq]
        have : (some false : Option Bool) = some ((List.range m).any fun _ => false) := by
          refine congrArg some (any_f.2 fun _ _ => rfl).symm
        rw [this]
        refine contains (n := m) _ (by omega) (fun k hk => ?_) ?_
        · rw [m_slices_IndexFunc_4_L1_eq]
          simp only [toN, mat_len, mat_row hk]
          refine bT (dT (by omega)) (gX (by omega) (gK hk (bB (v := false) ?_ (gI (by omega) rfl))))
          rw [m_law45_BoundsTriangle_1_eq, rw_len]
          exact congrArg some (nF (eT e.symm))
        · rw [m_slices_IndexFunc_4_L1_eq]
          simp only [mat_len]
          exact bF (dF (by omega)) rfl
      · refine loop_to' (n := l.length) (fun k => (k : Int)) (by omega) (fun k hk => ?_) ?_
        · rw [m_law45_BoundsTriangle_L1_eq]
          simp only [toN, nb_get]
          have he := hok _ (nb_mem hk)
          have i0 := he.i0; have i1 := he.i1; have j0 := he.j0; have j1 := he.j1
          have hi : (nb l k).1.toNat < m := by omega
          have hj : (nb l k).2.1.toNat < m := by omega
          simp only [mat_len, mat_row hi, rw_len, rw_get hj]
          have ht : f (nb l k).1.toNat (nb l k).2.1.toNat ≤ (nb l k).2.2 := by rw [hf]; exact ti_edge (nb_mem hk)
          exact bT (dT (by omega)) (gX (by omega) (gK hk (gX (by omega) (gK hi (gX (by omega) (gK hj (bF (dF (by omega)) (gI (by omega) rfl))))))))
        · rw [m_law45_BoundsTriangle_L1_eq]
          exact bF (dF (by omega)) rfl
      · rw [e]
        refine loop_to' (n := m) (fun k => (k : Int)) (by omega) (fun k hk => ?_) ?_
        · rw [m_law45_BoundsTriangle_L2_eq]
          rw [← e, ea, eb]
          simp only [toN, mat_len, mat_row ha, mat_row hk, rw_len, rw_get hk, rw_get hb]
          have b1 := bd ha hk
          have b2 := bd hk hb
          unfold inf at b1 b2
          refine bT (dT (by omega)) (bB (v := false) ?_ (gI (by omega) rfl))
          by_cases x1 : f a k = inf
          · exact bF (nF (eT x1)) (gX (by omega) (gK ha (gX (by omega) (gK hk rfl))))
          · refine bT (nT (eF x1)) ?_
            by_cases x2 : f k b = inf
            · exact bF (nF (eT x2)) (gX (by omega) (gK ha (gX (by omega) (gK hk (gX (by omega) (gK hk (gX (by omega) (gK hb rfl))))))))
            · have := hC.cl a k b ha hk hb x1 x2
              refine bT (nT (eF x2)) (gX (by omega) (gK ha (gX (by omega) (gK hk ?_))))
              refine gX (by omega) (gK hk (gX (by omega) (gK hb ?_)))
              exact gX (by omega) (gK hb (gI (by omega) (congrArg some (dF (by omega)))))
        · rw [m_law45_BoundsTriangle_L2_eq]
          exact bF (dF (by omega)) rfl
      · simp only [toN, mat_len, mat_row ha, rw_len, rw_get hb]
        have b1 := bd ha hb
        unfold inf at b1
        by_cases x1 : f a b < -1073741824
        · exact bB (v := true) (bT (dT x1) (gX (by omega) (gK ha (gX (by omega) (gK hb rfl))))) rfl
        · by_cases x2 : 1073741824 < f a b
          · exact bB (v := true) (bF (dF x1) (gX (by omega) (gK ha (gX (by omega) (gK hb (congrArg some (dT x2))))))) rfl
          · refine bB (v := false) (bF (dF x1) (gX (by omega) (gK ha (gX (by omega) (gK hb (congrArg some (dF x2))))))) (bF rfl (bB (v := l) ?_ (gR (by omega) (gR (by simp) ?_))))
            · rw [m_clone_i3_eq]; exact gR (by omega) rfl
            · obtain ⟨l', hl'⟩ : ∃ l' : List Bd, l' = l ++ [((a : Int), (b : Int), f a b)] := ⟨_, rfl⟩
              rw [← hl']
              have hmem : ∀ x, x ∈ l' → x ∈ l ∨ x = ((a : Int), (b : Int), f a b) := fun x hx => by
                rw [hl', List.mem_append, List.mem_singleton] at hx; exact hx
              have hok' : LOk m l' := fun x hx => by
                rcases hmem x hx with g | rfl
                · exact hok x g
                · exact edok.2 ⟨by simp, by simp; omega, by simp, by simp; omega, by simp; omega, by simp; omega⟩
              have hv' : Vld n l' := ⟨h1, h24, by rw [hl', List.length_append]; simp; omega, by rw [← hm]; exact hok'⟩
              obtain ⟨hc', hs⟩ := ti_same hok hok' (by omega) hc (fun x hx => by rw [hl']; exact List.mem_append_left _ hx) (fun x hx => by
                rcases hmem x hx with g | rfl
                · exact ti_edge g
                · rw [← hf]; exact Int.le_refl _)
              rcases hv'.Tight with ⟨_, hT'⟩ | ⟨c, _⟩
              · rw [← hm] at hT'
                have hmat : mat m (Ti m l') = mat m f := mat_ext fun i j hi hj => by rw [hf]; exact hs i j hi hj
                rw [hmat] at hT'
                exact bB hT' (bB (bT rfl (bB (p_Same (by omega) f) rfl)) rfl)
              · rw [← hm] at c; exact absurd hc' c
    · exact bB hT rfl
  · exact bB (not_Tight (by omega) hv) rfl
end Go.Proofs.Ytegmjohhgedakaa
