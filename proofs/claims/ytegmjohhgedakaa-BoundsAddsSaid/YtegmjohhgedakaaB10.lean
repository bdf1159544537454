/-
  Networks of bounds: the law of an added bound.
-/
import Derived.Test.YtegmjohhgedakaaB9
namespace Go.Proofs.Ytegmjohhgedakaa
open Go.RowKit Fw

theorem p_closed (m : List (List Int)) : m_bounds_closed std m = some (clB m) := by
  obtain ⟨n, hn⟩ : ∃ n, n = m.length := ⟨_, rfl⟩
  rw [m_bounds_closed_eq, ← hn]
  by_cases h1 : n < 1
  · have : ((n : Nat) : Int) < 1 := by omega
    have e : ¬ (1 ≤ n ∧ n ≤ 24) := by omega
    simp [this, clB, ← hn, e]
  by_cases h2 : 24 < n
  · have e1 : ¬ ((n : Nat) : Int) < 1 := by omega
    have e2 : (24 : Int) < ((n : Nat) : Int) := by omega
    have e : ¬ (1 ≤ n ∧ n ≤ 24) := by omega
    simp [e1, e2, clB, ← hn, e]
  have e1 : ¬ ((n : Nat) : Int) < 1 := by omega
  have e2 : ¬ (24 : Int) < ((n : Nat) : Int) := by omega
  have e3 : 1 ≤ n ∧ n ≤ 24 := by omega
  have hrow : loop (m_bounds_closed_L1 std m) 0 = some (lp ((List.range n).any fun i => !rowB m i)) := by
    refine searchB _ (by omega) (fun i hi => ?_) ?_
    · rw [m_bounds_closed_L1_eq, ← hn]
      simp only [toN]
      refine bT (dT (by omega)) (gX (by omega) (gK hi (bB (v := !rowB m i) ?_ ?_)))
      · by_cases hlen : (m.getD i []).length = n
        · have hl1 : m_slices_ContainsFunc_6 std (m.getD i []) = some ((List.range n).any fun j => badE (ent m i j)) := by
            rw [m_slices_ContainsFunc_6_eq, m_slices_IndexFunc_6_eq]
            refine contains _ (by omega) (fun j hj => ?_) ?_
            · rw [m_slices_IndexFunc_6_L1_eq]
              simp only [toN, hlen]
              refine bT (dT (by omega)) (gX (by omega) (gK hj (bB (v := badE (ent m i j)) ?_ ?_)))
              · rw [m_bounds_closed_1_eq]
                show _ = some (!(ent m i j == inf) && (decide (ent m i j < -68719476736) || decide (68719476736 < ent m i j)))
                refine bB (v := (!(ent m i j == inf) && (decide (ent m i j < -68719476736) || decide (68719476736 < ent m i j)))) ?_ rfl
                show (bif !(ent m i j == inf) then (bif decide (ent m i j < -68719476736) then _ else _) else _) = _
                cases hx : (ent m i j == inf) with
                | true => rfl
                | false =>
                  refine bT rfl ?_
                  cases hy : decide (ent m i j < -68719476736) with
                  | true => rfl
                  | false => rfl
              · cases badE (ent m i j) with
                | true => rfl
                | false => exact gI (by omega) rfl
            · rw [m_slices_IndexFunc_6_L1_eq]
              exact bF (dF (by omega)) rfl
          have hr : rowB m i = ((!(List.range n).any fun j => badE (ent m i j)) && (ent m i i == 0)) := by
            unfold rowB; rw [← hn, hlen]; simp
          rw [hr]
          refine bF (nF (eT (by rw [hlen]))) ?_
          show (bif !(ent m i i == 0) then grd (okIdx (i : Int) (m.getD i []).length) (grd (okKin i (m.getD i []).length) _) else _) = _
          rw [hlen]
          cases hz : (ent m i i == 0) with
          | true =>
            refine bF rfl (gX (by omega) (gK hi (bB hl1 ?_)))
            cases (List.range n).any fun j => badE (ent m i j) <;> rfl
          | false =>
            refine bT rfl (gX (by omega) (gK hi ?_))
            cases (List.range n).any fun j => badE (ent m i j) <;> rfl
        · have hr : rowB m i = false := by
            unfold rowB; rw [← hn]
            have : ((m.getD i []).length == n) = false := by simpa using hlen
            rw [this]; rfl
          rw [hr]
          exact bT (nT (eF (by omega))) rfl
      · cases rowB m i with
        | true => exact gI (by omega) rfl
        | false => rfl
    · rw [m_bounds_closed_L1_eq, ← hn]
      exact bF (dF (by omega)) rfl
  refine bB (v := false) (by simp [e1, e2]) (bF rfl (bB hrow ?_))
  cases hr : (List.range n).any fun i => !rowB m i with
  | true =>
    show some false = some (clB m)
    unfold clB
    rw [← hn, hr]; simp
  | false =>
    have hall : ∀ i, i < m.length → RwOk m.length m i := fun i hi => rowB_t.1 (by simpa using any_f.1 hr i (by rw [hn]; exact hi))
    have hlen : ∀ i, i < n → (m.getD i []).length = n := fun i hi => by rw [(hall i (by omega)).len, hn]
    have h3 : ∀ i j, i < n → j < n → loop (m_bounds_closed_L2 std m (i : Int) (j : Int)) 0 = some (lp (tri2 m i j)) := by
      intro i j hi hj
      unfold tri2
      rw [← hn]
      refine searchB _ (by omega) (fun k hk => ?_) ?_
      · rw [m_bounds_closed_L2_eq, ← hn]
        simp only [toN, hlen i hi, hlen j hj]
        have b1 := ent_bd hall (i := i) (j := j) (by omega) (by omega)
        have b2 := ent_bd hall (i := j) (j := k) (by omega) (by omega)
        have b3 := ent_bd hall (i := i) (j := k) (by omega) (by omega)
        unfold inf at b1 b2 b3
        refine bT (dT (by omega)) (gX (by omega) (gK hi (gX (by omega) (gK hk (gX (by omega) (gK hj ?_))))))
        refine gX (by omega) (gK hj (gX (by omega) (gK hk (bB (v := pl (ent m i j) (ent m j k)) ?_ ?_))))
        · exact p_plus (by show _ ≤ ent m i j ∧ ent m i j ≤ _; omega) (by show _ ≤ ent m j k ∧ ent m j k ≤ _; omega)
        · have ht : decide (pl (ent m i j) (ent m j k) < ent m i k) = triB m i j k := by
            unfold triB
            by_cases x1 : ent m i j = inf
            · rw [pl_inf (.inl x1), eT x1]
              exact dF (by unfold inf; omega)
            · by_cases x2 : ent m j k = inf
              · rw [pl_inf (.inr x2), eT x2, eF x1]
                exact dF (by unfold inf; omega)
              · rw [pl_fin x1 x2, eF x1, eF x2]; rfl
          show (bif decide (pl (ent m i j) (ent m j k) < ent m i k) then _ else _) = _
          rw [ht]
          cases triB m i j k with
          | true => rfl
          | false => exact gI (by omega) rfl
      · rw [m_bounds_closed_L2_eq, ← hn]
        exact bF (dF (by omega)) rfl
    have h4 : ∀ i, i < n → loop (m_bounds_closed_L3 std m (i : Int)) 0 = some (lp (tri1 m i)) := fun i hi => by
      unfold tri1
      rw [← hn]
      exact nest e3.2 (I := fun _ => none) (L := fun j => loop (m_bounds_closed_L2 std m (i : Int) j) 0) (fun x => by rw [m_bounds_closed_L3_eq, ← hn]; rfl) (fun j hj => h3 i j hi hj)
    have h5 : loop (m_bounds_closed_L4 std m) 0 = some (lp (tri0 m)) := by
      unfold tri0
      rw [← hn]
      exact nest e3.2 (I := fun _ => none) (L := fun i => loop (m_bounds_closed_L3 std m i) 0) (fun x => by rw [m_bounds_closed_L4_eq, ← hn]; rfl) h4
    show (Option.bind (loop (m_bounds_closed_L4 std m) 0) fun e => match e with
      | .inl _ => (some false)
      | .inr (_) => (some true)) = some (clB m)
    refine bB h5 ?_
    unfold clB
    rw [← hn, hr, decide_eq_true e3]
    cases tri0 m <;> rfl
/-- a closed matrix is a matrix -/
theorem clM_mat {m : List (List Int)} (h : ClM m) : m = mat m.length (ent m) := by
  refine List.ext_getElem (by rw [mat_len]) fun i h1 h2 => ?_
  have hr := (h.row i h1).len
  have hg : m.getD i [] = m[i] := by rw [List.getD_eq_getElem?_getD, List.getElem?_eq_getElem h1]; rfl
  rw [hg] at hr
  have hm : (mat m.length (ent m))[i] = rw' m.length (ent m i) := by simp [mat]
  rw [hm]
  refine List.ext_getElem (by rw [hr, rw_len]) fun j h3 h4 => ?_
  have : ent m i j = m[i][j] := by
    unfold ent
    rw [hg, List.getD_eq_getElem?_getD, List.getElem?_eq_getElem h3]; rfl
  simp [rw', this]

/-! a bound more -/
def addF (f : Mx) (e : Bd) : Mx := fun i j => mn (f i j) (pl (pl (f i e.1.toNat) e.2.2) (f e.2.1.toNat j))
theorem set_get {l : List (List Int)} {i : Nat} (h : i < l.length) (r : List Int) : (l.set i r).getD i [] = r := by
  rw [List.getD_eq_getElem?_getD, List.getElem?_set]; simp [h]
theorem p_Add_L1 {n : Nat} (hn : n ≤ 24) {f : Mx} (hf : Bdd n 68719476736 f) {e : Bd} (he : EdB n e) {i : Nat} (hi : i < n) (P : List (List Int)) (hP : P.length = n) :
    loop (m_bounds_Add_L1 std e.1 e.2.1 e.2.2 (mat n f) (i : Int)) (0, P.set i (rw' n (f i))) = some (P.set i (rw' n (addF f e i))) := by
  obtain ⟨i0, i1, j0, j1, w0, w1⟩ := he
  have hI : e.1.toNat < n := by omega
  have hJ : e.2.1.toNat < n := by omega
  have h0 : rw' n (f i) = rw' n (fun b => if b < 0 then addF f e i b else f i b) := rw_ext fun b _ => by simp
  conv => lhs; rw [h0]
  refine loop_up (n := n) (fun j => P.set i (rw' n (fun b => if b < j then addF f e i b else f i b))) (by omega) (fun j hj => ?_) ?_
  · rw [m_bounds_Add_L1_eq]
    have hr : (P.set i (rw' n (fun b => if b < j then addF f e i b else f i b))).getD i [] = rw' n (fun b => if b < j then addF f e i b else f i b) := set_get (by omega) _
    simp only [toN, List.length_set, hP, mat_row hi, mat_row hJ, rw_len, rw_get hI, rw_get hj, hr]
    have b1 := hf i e.1.toNat hi hI
    have b2 := hf e.2.1.toNat j hJ hj
    unfold inf at b1 b2
    have p1 : -68719476736 - 1073741824 ≤ pl (f i e.1.toNat) e.2.2 ∧ pl (f i e.1.toNat) e.2.2 ≤ 4398046511104 + 1073741824 := by
      unfold pl
      split
      · unfold inf; omega
      · omega
    refine bT (dT (by omega)) (gX (by omega) (gK hi (gX (by omega) (gK hj (gX (by omega) (gK hI (gX (by omega) (gK hj ?_))))))))
    refine bB (p_plus (by omega) (by omega)) (bB (p_plus (by omega) (by omega)) (gX (by omega) (gK hj (gI (by omega) ?_))))
    rw [rw_set, List.set_set]
    refine congrArg some (congrArg Sum.inl (Prod.ext (by simp) ?_))
    show P.set i _ = P.set i _
    refine congrArg _ (rw_ext fun b _ => ?_)
    by_cases eb : b = j
    · subst eb
      rw [if_pos rfl, if_pos (by omega)]; rfl
    · rw [if_neg eb]
      by_cases hb : b < j
      · rw [if_pos hb, if_pos (by omega)]
      · rw [if_neg hb, if_neg (by omega)]
  · rw [m_bounds_Add_L1_eq]
    simp only [toN, mat_row hi, rw_len]
    refine bF (dF (by omega)) (congrArg some (congrArg Sum.inr (congrArg _ (rw_ext fun b hb => if_pos hb))))
theorem p_Add {n : Nat} (hn1 : 1 ≤ n) (hn : n ≤ 24) {f : Mx} (hf : Bdd n 68719476736 f) (hcl : clB (mat n f) = true) {e : Bd} (he : EdB n e) :
    m_bounds_Add std e.1 e.2.1 e.2.2 (mat n f) = some (bif decide (pl (f e.2.1.toNat e.1.toNat) e.2.2 < 0) then ([], 17) else (mat n (addF f e), 0)) := by
  rw [m_bounds_Add_eq, p_closed, hcl, mat_len]
  obtain ⟨i0, i1, j0, j1, w0, w1⟩ := he
  have hI : e.1.toNat < n := by omega
  have hJ : e.2.1.toNat < n := by omega
  have b1 := hf e.2.1.toNat e.1.toNat hJ hI
  unfold inf at b1
  refine bB (v := false) (bB rfl (bF rfl (bB (p_right _ _ _ _) (congrArg some (nF (dT ⟨i0, i1, j0, j1, w0, w1⟩)))))) (bF rfl ?_)
  simp only [mat_row hJ, rw_len, rw_get hI, toN]
  refine gX (by omega) (gK hJ (gX (by omega) (gK hI (bB (p_plus (by omega) (by omega)) ?_))))
  cases decide (pl (f e.2.1.toNat e.1.toNat) e.2.2 < 0) with
  | true => rfl
  | false =>
    refine bF rfl (gG (by omega) (gR (by omega) (bB (v := mat n (addF f e)) ?_ rfl)))
    have h0 : List.replicate n ([] : List Int) = part n 0 (addF f e) := by
      refine List.ext_getElem? fun b => ?_
      simp only [part, List.getElem?_map, List.getElem?_replicate]
      by_cases hb : b < n
      · simp [hb]
      · simp [hb]
    rw [h0]
    refine loop_up (n := n) (fun i => part n i (addF f e)) (by omega) (fun i hi => ?_) ?_
    · rw [m_bounds_Add_L2_eq]
      have hL := p_Add_L1 hn hf ⟨i0, i1, j0, j1, w0, w1⟩ hi (part n i (addF f e)) (part_len _ _ _)
      simp only [toN, mat_len, mat_row hi]
      refine bT (dT (by omega)) (gX (by omega) (gK hi (bB (v := rw' n (f i)) ?_ (gX (by rw [part_len]; omega) (gK (by rw [part_len]; omega) (bB hL (gI (by omega) ?_)))))))
      · rw [m_clone_i1_eq]; exact gR (by rw [rw_len]; omega) rfl
      · rw [part_set (addF f e) hi _ (fun b _ => rfl)]; rfl
    · rw [m_bounds_Add_L2_eq]
      simp only [mat_len]
      refine bF (dF (by omega)) (congrArg some (congrArg Sum.inr ?_))
      unfold part mat
      exact List.map_congr_left fun a ha => by rw [if_pos (List.mem_range.1 ha)]
theorem not_Add {m : List (List Int)} {x y z : Int} (h : clB m = false ∨ (clB m = true ∧ ¬ (0 ≤ x ∧ x < ((m.length : Nat) : Int) ∧ 0 ≤ y ∧ y < ((m.length : Nat) : Int) ∧ -1073741824 ≤ z ∧ z ≤ 1073741824))) : m_bounds_Add std x y z m = some ([], 1) := by
  rw [m_bounds_Add_eq, p_closed]
  rcases h with h | ⟨h, h2⟩
  · rw [h]; rfl
  · rw [h]
    exact bB (v := true) (bB rfl (bF rfl (bB (p_right _ _ _ _) (congrArg some (nT (dF h2)))))) rfl
end Go.Proofs.Ytegmjohhgedakaa
