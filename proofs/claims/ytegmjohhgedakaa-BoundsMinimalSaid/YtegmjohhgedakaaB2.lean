/-
  Networks of bounds: what the reference's tight matrix comes to.
-/
import Derived.Test.YtegmjohhgedakaaB1
namespace Go.Proofs.Ytegmjohhgedakaa
open Go.RowKit Fw

theorem mi_top {x : Int} (h : x ≤ inf) : mn x inf = x := by unfold mn; rw [if_neg (by omega)]
theorem p_ref_L4 {n k i : Nat} (hn : n ≤ 24) (hk : k < n) (hi : i < n) {f : Mx} (hf : Bdd n 1099511627776 f) : loop (m_ref45_Tight_L4 std (i : Int) (k : Int) (n : Int)) (0, mat n f) = some (mat n (setR f i (stp k (f i) (f k)))) := by
  have h0 : mat n f = mat n (fun a b => if a = i ∧ b < 0 then stp k (f i) (f k) b else f a b) := mat_ext fun a b _ _ => by simp
  rw [h0]
  refine loop_up (n := n) (fun j => mat n (fun a b => if a = i ∧ b < j then stp k (f i) (f k) b else f a b)) (by omega) (fun j hj => ?_) ?_
  · rw [m_ref45_Tight_L4_eq]
    obtain ⟨g, hg⟩ : ∃ g : Mx, g = (fun a b => if a = i ∧ b < j then stp k (f i) (f k) b else f a b) := ⟨_, rfl⟩
    rw [← hg]
    simp only [toN, mat_len, mat_row hi, mat_row hk, rw_len, rw_get hj, rw_get hk]
    obtain ⟨b1, b2⟩ := stp_bd hk (by omega) (by omega) (hf i · hi) (hf k · hk)
    have e1 : g i j = f i j := by rw [hg]; simp
    have e2 : g k j = f k j := by rw [hg]; simp
    have e3 : g i k = (if j ≤ k then f i k else mn (f i k) (pl (f i k) (f k k))) := by
      rw [hg]
      by_cases h : j ≤ k
      · simp [h]; omega
      · have : k < j := by omega
        simp only [this, and_self, if_true, h, if_false]
        unfold stp
        simp
    have e4 : -2199023255552 ≤ g i k ∧ g i k ≤ inf := by
      rw [e3]
      split
      · have := hf i k hi hk; omega
      · have := b1; omega
    have e5 := hf k j hk hj
    have e7 := hf i j hi hj
    have e6 : mn (f i j) (pl (if j ≤ k then f i k else mn (f i k) (pl (f i k) (f k k))) (f k j)) = stp k (f i) (f k) j := rfl
    -- the end of a round
    have fin : ∀ x, x = stp k (f i) (f k) j → (some (Sum.inl (((j : Int) + 1), mat n (fun a => if a = i then fun b => if b = j then x else g i b else g a))) : Option ((Int × List (List Int)) ⊕ List (List Int))) = some (.inl (((j + 1 : Nat) : Int), mat n (fun a b => if a = i ∧ b < j + 1 then stp k (f i) (f k) b else f a b))) := by
      rintro _ rfl
      refine congrArg some (congrArg Sum.inl (Prod.ext (by simp) (mat_ext fun a b ha hb => ?_)))
      show (if a = i then (fun b => if b = j then stp k (f i) (f k) j else g i b) else g a) b = (if a = i ∧ b < j + 1 then stp k (f i) (f k) b else f a b)
      by_cases ea : a = i
      · subst ea
        rw [if_pos rfl, hg]
        by_cases eb : b = j
        · subst eb; simp
        · by_cases h : b < j
          · have : b < j + 1 := by omega
            simp [eb, h, this]
          · have : ¬ b < j + 1 := by omega
            simp [eb, h, this]
      · rw [if_neg ea, if_neg (by simp [ea]), hg]; simp [ea]
    have gj : mat n g = mat n (fun a => if a = i then fun b => if b = j then g i j else g i b else g a) := mat_ext fun a b _ _ => by
      by_cases ea : a = i
      · subst ea
        by_cases eb : b = j
        · subst eb; simp
        · simp [eb]
      · simp [ea]
    refine bT (dT (by omega)) ?_
    by_cases h1 : g i k = inf
    · refine bB (v := false) (bF (nF (eT h1)) (gX (by omega) (gK hi (gX (by omega) (gK hk rfl))))) (bB (v := mat n g) (bF rfl rfl) (gI (by omega) ?_))
      rw [gj]
      refine fin _ ?_
      rw [← e6, ← e3, pl_inf (.inl h1), mi_top e7.2, e1]
    · by_cases h2 : g k j = inf
      · refine bB (v := false) (bT (nT (eF h1)) ?_) (bB (v := mat n g) (bF rfl rfl) (gI (by omega) ?_))
        · exact gX (by omega) (gK hi (gX (by omega) (gK hk (gX (by omega) (gK hk (gX (by omega) (gK hj (congrArg some (nF (eT h2))))))))))
        · rw [gj]
          refine fin _ ?_
          rw [← e6, ← e3, pl_inf (.inr (by rw [← e2]; exact h2)), mi_top e7.2, e1]
      · have e8 : -1099511627776 ≤ g k j ∧ g k j ≤ inf := by rw [e2]; exact e5
        unfold inf at e4 e8
        refine bB (v := true) (bT (nT (eF h1)) ?_) (bB (v := (mat n g).set i ((rw' n (g i)).set j (mi (g i j) (g i k + g k j)))) (bT rfl ?_) (gI (by omega) ?_))
        · exact gX (by omega) (gK hi (gX (by omega) (gK hk (gX (by omega) (gK hk (gX (by omega) (gK hj (congrArg some (nT (eF h2))))))))))
        · exact gX (by omega) (gK hj (gX (by omega) (gK hk (gX (by omega) (gK hj (gI (by omega) rfl))))))
        · rw [rw_set, mat_setrow]
          refine fin _ ?_
          rw [← e6, ← e3, pl_fin h1 (by rw [← e2]; exact h2), e1, e2]
          rfl
  · rw [m_ref45_Tight_L4_eq]
    refine bF (dF (by omega)) ?_
    refine congrArg some (congrArg Sum.inr (mat_ext fun a b _ hb => ?_))
    simp only [hb, and_true, setR]
theorem p_ref_L1 {n : Nat} (hn : n ≤ 24) : loop (m_ref45_Tight_L1 std (n : Int)) (0, List.replicate n 0) = some (rw' n fun _ => inf) := by
  have h0 : List.replicate n (0 : Int) = rw' n (fun b => if b < 0 then inf else 0) := by
    refine List.ext_getElem? fun b => ?_
    simp only [rw', List.getElem?_map, List.getElem?_replicate]
    by_cases hb : b < n
    · simp [hb]
    · simp [hb]
  rw [h0]
  refine loop_up (n := n) (fun j => rw' n (fun b => if b < j then inf else 0)) (by omega) (fun j hj => ?_) ?_
  · rw [m_ref45_Tight_L1_eq]
    simp only [toN, rw_len]
    refine bT (dT (by omega)) (gX (by omega) (gK hj (gI (by omega) ?_)))
    rw [rw_set]
    refine congrArg some (congrArg Sum.inl (Prod.ext (by simp) (rw_ext fun b hb => ?_)))
    show (if b = j then 4398046511104 else if b < j then inf else 0) = if b < j + 1 then inf else 0
    unfold inf
    split
    · rw [if_pos (by omega)]
    · split
      · rw [if_pos (by omega)]
      · rw [if_neg (by omega)]
  · rw [m_ref45_Tight_L1_eq]
    refine bF (dF (by omega)) (congrArg some (congrArg Sum.inr (rw_ext fun b hb => if_pos hb)))
theorem p_ref_L2 {n : Nat} (hn : n ≤ 24) : loop (m_ref45_Tight_L2 std (n : Int)) (0, []) = some (mat n idM) := by
  refine loop_up (n := n) (fun i => (List.range i).map fun a => rw' n (idM a)) (by omega) (fun i hi => ?_) ?_
  · rw [m_ref45_Tight_L2_eq]
    simp only [toN]
    refine bT (dT (by omega)) (gG (by omega) (gR (by omega) (bB (p_ref_L1 hn) ?_)))
    simp only [rw_len, List.length_map, List.length_range]
    refine gX (by omega) (gK hi (gR (by omega) (gI (by omega) ?_)))
    refine congrArg some (congrArg Sum.inl (Prod.ext (by simp) ?_))
    show _ ++ [(rw' n fun _ => inf).set i 0] = (List.range (i + 1)).map fun a => rw' n (idM a)
    rw [List.range_succ, List.map_append, rw_set]
    refine congrArg _ ?_
    show [_] = [_]
    refine congrArg (fun x => [x]) (rw_ext fun b _ => ?_)
    unfold idM
    by_cases e : b = i
    · rw [if_pos e, if_pos e.symm]
    · rw [if_neg e, if_neg (fun h => e h.symm)]
  · rw [m_ref45_Tight_L2_eq]
    exact bF (dF (by omega)) rfl
theorem p_ref_L3 {n : Nat} {l : List Bd} (hl : LOk n l) (hlen : l.length ≤ 1000) : loop (m_ref45_Tight_L3 std l) (0, mat n idM) = some (mat n (M0 l)) := by
  rw [← foldT_all]
  refine loop_up (n := l.length) (fun k => mat n (foldT l k)) (by omega) (fun k hk => ?_) ?_
  · rw [m_ref45_Tight_L3_eq]
    have he := hl _ (nb_mem hk)
    have i0 := he.i0; have i1 := he.i1; have j0 := he.j0; have j1 := he.j1
    simp only [toN, nb_get]
    refine bT (dT (by omega)) (gX (by omega) (gK hk (gX (by rw [mat_len]; omega) (gK (by rw [mat_len]; omega) ?_))))
    have hr : ((mat n (foldT l k)).getD (nb l k).1.toNat []).length = n := by rw [mat_row (by omega), rw_len]
    refine gX (by rw [hr]; omega) (gK (by rw [hr]; omega) (gI (by omega) ?_))
    rw [ed_set (by omega) (by omega), foldT_step hk]
    rfl
  · rw [m_ref45_Tight_L3_eq]
    exact bF (dF (by omega)) rfl
theorem not_cons_at {n k : Nat} {M : Mx} (hk : k ≤ n) {i : Nat} (hi : i < n) (h : Mk M k i i < 0) : ¬ Cons n M := by
  intro hc
  have h1 := hc i hi
  have h2 := Mk_le M k (n - k) i i
  rw [show k + (n - k) = n by omega] at h2
  omega
theorem p_ref_L5 {n k : Nat} (hn : n ≤ 24) (hk : k < n) {f : Mx} (hf : Bdd n 137438953472 f) : (loop (m_ref45_Tight_L5 std (k : Int) (n : Int)) (0, mat n f) = some (.inr (mat n (rnd k f))) ∧ ∀ i, i < n → 0 ≤ rnd k f i i) ∨ (loop (m_ref45_Tight_L5 std (k : Int) (n : Int)) (0, mat n f) = some (.inl ()) ∧ ∃ i, i < n ∧ rnd k f i i < 0) := by
  have key : ∃ e, loop (m_ref45_Tight_L5 std (k : Int) (n : Int)) (0, mat n f) = some e ∧ ((e = .inr (mat n (rnd k f)) ∧ ∀ i, i < n → 0 ≤ rnd k f i i) ∨ (e = .inl () ∧ ∃ i, i < n ∧ rnd k f i i < 0)) := by
    refine loop_is (fun y => ∃ i : Nat, y = ((i : Int), mat n (rowsD k f i)) ∧ i ≤ n ∧ ∀ j, j < i → 0 ≤ rnd k f j j) (fun y => n - y.1.toNat) _ ⟨0, Prod.ext rfl (mat_ext fun a b _ _ => by simp [rowsD]), Nat.zero_le _, fun j hj => by omega⟩ (by show n - _ < _; omega) ?_
    rintro _ ⟨i, rfl, hi, hp⟩
    rw [m_ref45_Tight_L5_eq]
    by_cases hlt : i < n
    · have h4 := p_ref_L4 hn hk hlt (rowsD_bd (i := i) hk (by omega) hf)
      have h5 : mat n (setR (rowsD k f i) i (stp k (rowsD k f i i) (rowsD k f i k))) = mat n (rowsD k f (i + 1)) := mat_ext fun a b _ _ => rowsD_step a b
      rw [h5] at h4
      have h6 : rowsD k f (i + 1) i i = rnd k f i i := by simp [rowsD]
      have hx : ∀ r, (bif decide (rnd k f i i < 0) then (some (Sum.inr (Sum.inl ()))) else grd (okI .i64 ((i : Int) + 1)) <| (some (Sum.inl ((i : Int) + 1, mat n (rowsD k f (i + 1))))) : Option ((Int × List (List Int)) ⊕ (Unit ⊕ List (List Int)))) = r →
          (bif (decide ((i : Int) < (n : Int))) then Option.bind (loop (m_ref45_Tight_L4 std (i : Int) (k : Int) (n : Int)) (0, mat n (rowsD k f i))) fun m52 =>
            grd (okIdx (i : Int) ((List.length m52))) <| grd (okKin ((Int.toNat (i : Int))) ((List.length m52))) <| grd (okIdx (i : Int) ((List.length (List.getD m52 (Int.toNat (i : Int)) [])))) <| grd (okKin ((Int.toNat (i : Int))) ((List.length (List.getD m52 (Int.toNat (i : Int)) [])))) <|
            bif (decide ((List.getD (List.getD m52 (Int.toNat (i : Int)) []) (Int.toNat (i : Int)) 0) < 0)) then (some (Sum.inr (Sum.inl ()))) else grd (okI .i64 (((i : Int) + 1))) <| (some (Sum.inl (((i : Int) + 1), m52)))
          else (some (Sum.inr (Sum.inr (mat n (rowsD k f i))))) : Option ((Int × List (List Int)) ⊕ (Unit ⊕ List (List Int)))) = r := by
        intro r hr
        refine bT (dT (by omega)) (bB h4 ?_)
        simp only [toN, mat_len, mat_row hlt, rw_len, rw_get hlt, h6]
        exact gX (by omega) (gK hlt (gX (by omega) (gK hlt hr)))
      by_cases hneg : rnd k f i i < 0
      · exact ⟨_, hx _ (bT (dT hneg) rfl), .inr ⟨rfl, i, hlt, hneg⟩⟩
      · refine ⟨_, hx _ (bF (dF hneg) (gI (by omega) rfl)), ⟨i + 1, by simp, by omega, fun j hj => ?_⟩, by show n - (_ : Int).toNat < n - _; omega⟩
        by_cases e : j = i
        · subst e; omega
        · exact hp j (by omega)
    · obtain rfl : i = n := by omega
      exact ⟨_, bF (dF (by omega)) rfl, .inl ⟨congrArg Sum.inr (mat_ext fun a b ha _ => by simp [rowsD, ha]), hp⟩⟩
  obtain ⟨e, h1, ⟨rfl, h2⟩ | ⟨rfl, h2⟩⟩ := key
  · exact .inl ⟨h1, h2⟩
  · exact .inr ⟨h1, h2⟩
theorem p_ref_L6 {n : Nat} {l : List Bd} (hl : LOk n l) (hn1 : 1 ≤ n) (hn : n ≤ 24) : (Cons n (M0 l) ∧ loop (m_ref45_Tight_L6 std (n : Int)) (0, mat n (M0 l)) = some (.inr (mat n (Ti n l)))) ∨ (¬ Cons n (M0 l) ∧ loop (m_ref45_Tight_L6 std (n : Int)) (0, mat n (M0 l)) = some (.inl ())) := by
  have key : ∃ e, loop (m_ref45_Tight_L6 std (n : Int)) (0, mat n (M0 l)) = some e ∧ ((e = .inr (mat n (Ti n l)) ∧ Cons n (M0 l)) ∨ (e = .inl () ∧ ¬ Cons n (M0 l))) := by
    refine loop_is (fun y => ∃ k : Nat, y = ((k : Int), mat n (Mk (M0 l) k)) ∧ k ≤ n ∧ (1 ≤ k → ∀ i, i < n → 0 ≤ Mk (M0 l) k i i)) (fun y => n - y.1.toNat) _ ⟨0, rfl, Nat.zero_le _, fun h => by omega⟩ (by show n - _ < _; omega) ?_
    rintro _ ⟨k, rfl, hk, hp⟩
    rw [m_ref45_Tight_L6_eq]
    by_cases hlt : k < n
    · have hb : Bdd n 137438953472 (Mk (M0 l) k) := by
        intro i j hi hj
        refine ⟨?_, Mk_top hl k hi hj⟩
        by_cases hf : Mk (M0 l) k i j = inf
        · rw [hf]; unfold inf; omega
        · by_cases h0 : k = 0
          · subst h0
            have : -C ≤ Mk (M0 l) 0 i j := ((M0_ini hl).fin i j hi hj hf).1
            unfold C at this
            omega
          · have hI := inv_upto (M0_ini hl) hn k hk (fun k' hk' i hi => by
              have h1 := hp (by omega) i hi
              have h2 := Mk_le (M0 l) k' (k - k') i i
              rw [show k' + (k - k') = k by omega] at h2
              omega)
            have := hI.bd hk hn hi hj hf
            omega
      rcases p_ref_L5 hn hlt hb with ⟨h1, h2⟩ | ⟨h1, i, hi, h2⟩
      · exact ⟨_, bT (dT (by omega)) (bB h1 (gI (by omega) rfl)), ⟨k + 1, by simp; rfl, by omega, fun _ => h2⟩, by show n - (_ : Int).toNat < n - _; omega⟩
      · exact ⟨_, bT (dT (by omega)) (bB h1 rfl), .inr ⟨rfl, not_cons_at (k := k + 1) (by omega) hi h2⟩⟩
    · obtain rfl : k = n := by omega
      exact ⟨_, bF (dF (by omega)) rfl, .inl ⟨rfl, hp hn1⟩⟩
  obtain ⟨e, h1, ⟨rfl, h2⟩ | ⟨rfl, h2⟩⟩ := key
  · exact .inl ⟨h2, h1⟩
  · exact .inr ⟨h2, h1⟩
theorem p_refTight {n : Nat} {l : List Bd} (hl : LOk n l) (hlen : l.length ≤ 1000) (hn1 : 1 ≤ n) (hn : n ≤ 24) :
    (Cons n (M0 l) ∧ m_ref45_Tight std (n : Int) l = some (mat n (Ti n l), true)) ∨ (¬ Cons n (M0 l) ∧ m_ref45_Tight std (n : Int) l = some ([], false)) := by
  rw [m_ref45_Tight_eq]
  rcases p_ref_L6 hl hn1 hn with ⟨h1, h2⟩ | ⟨h1, h2⟩
  · exact .inl ⟨h1, bB (p_ref_L2 hn) (bB (p_ref_L3 hl hlen) (bB h2 rfl))⟩
  · exact .inr ⟨h1, bB (p_ref_L2 hn) (bB (p_ref_L3 hl hlen) (bB h2 rfl))⟩
theorem p_refCons {n : Nat} {l : List Bd} (hl : LOk n l) (hlen : l.length ≤ 1000) (hn1 : 1 ≤ n) (hn : n ≤ 24) :
    (Cons n (M0 l) ∧ m_ref45_Consistent std (n : Int) l = some true) ∨ (¬ Cons n (M0 l) ∧ m_ref45_Consistent std (n : Int) l = some false) := by
  rw [m_ref45_Consistent_eq]
  rcases p_refTight hl hlen hn1 hn with ⟨h1, h2⟩ | ⟨h1, h2⟩
  · exact .inl ⟨h1, by rw [h2]; rfl⟩
  · exact .inr ⟨h1, by rw [h2]; rfl⟩

/-! validity -/
structure Vld (n : Int) (l : List Bd) : Prop where
  n1 : 1 ≤ n
  n24 : n ≤ 24
  len : l.length ≤ 200
  ok : LOk n.toNat l
abbrev EdB (n : Nat) (e : Bd) : Prop := 0 ≤ e.1 ∧ e.1 < (n : Int) ∧ 0 ≤ e.2.1 ∧ e.2.1 < (n : Int) ∧ -1073741824 ≤ e.2.2 ∧ e.2.2 ≤ 1073741824
theorem edok {n : Nat} {e : Bd} : EdOk n e ↔ EdB n e :=
  ⟨fun h => ⟨h.i0, h.i1, h.j0, h.j1, h.w0, h.w1⟩, fun ⟨a, b, c, d, e, f⟩ => ⟨a, b, c, d, e, f⟩⟩
theorem p_right (n : Int) (x y z : Int) : m_bounds_right std n x y z = some (decide (0 ≤ x ∧ x < n ∧ 0 ≤ y ∧ y < n ∧ -1073741824 ≤ z ∧ z ≤ 1073741824)) := by
  rw [m_bounds_right_eq]
  by_cases h1 : 0 ≤ x <;> by_cases h2 : x < n <;> by_cases h3 : 0 ≤ y <;> by_cases h4 : y < n <;> by_cases h5 : -1073741824 ≤ z <;> simp [h1, h2, h3, h4, h5]
theorem p_Valid {n : Int} {l : List Bd} (hl : l.length ≤ 1000) : (Vld n l ∧ m_bounds_Valid std n l = some true) ∨ (¬ Vld n l ∧ m_bounds_Valid std n l = some false) := by
  rw [m_bounds_Valid_eq]
  by_cases h1 : ¬ 1 ≤ n
  · exact .inr ⟨fun h => h1 h.n1, by simp [h1]⟩
  have h1 := Decidable.not_not.1 h1
  by_cases h2 : ¬ n ≤ 24
  · exact .inr ⟨fun h => h2 h.n24, by simp [h1, h2]⟩
  have h2 := Decidable.not_not.1 h2
  by_cases h3 : ¬ l.length ≤ 200
  · exact .inr ⟨fun h => h3 h.len, by have : ¬ ((l.length : Nat) : Int) ≤ 200 := by omega
                                      simp [h1, h2, this]⟩
  have h3 := Decidable.not_not.1 h3
  have h3' : ((l.length : Nat) : Int) ≤ 200 := by omega
  obtain ⟨m, rfl⟩ : ∃ m : Nat, n = (m : Int) := ⟨n.toNat, by omega⟩
  rcases search (B := m_slices_IndexFunc_L1 std (m : Int) l) (n := l.length) (fun i => !decide (EdB m (nb l i))) (fun i => Sum.inl (i : Int)) (.inr ()) (by omega) (fun i hi => by
      rw [m_slices_IndexFunc_L1_eq]
      simp only [toN, nb_get]
      refine bT (dT (by omega)) (gX (by omega) (gK hi (bB (v := !decide (EdB m (nb l i))) ?_ ?_)))
      · rw [m_bounds_Valid_1_eq, p_right]; rfl
      · cases decide (EdB m (nb l i)) with
        | true => exact gI (by omega) rfl
        | false => rfl) (by
      rw [m_slices_IndexFunc_L1_eq]
      exact bF (dF (by omega)) rfl) with ⟨h4, h5⟩ | ⟨i, hi, h4, _, h5⟩
  · left
    refine ⟨⟨h1, h2, h3, fun e he => ?_⟩, ?_⟩
    · obtain ⟨k, hk, rfl⟩ := mem_nb he
      rw [toN]
      have := h4 k hk
      exact edok.2 (by simpa using this)
    · rw [m_slices_ContainsFunc_eq, m_slices_IndexFunc_eq, h5]
      simp [h1, h2, h3']
  · right
    refine ⟨fun h => ?_, ?_⟩
    · have := edok.1 (h.ok _ (nb_mem hi))
      rw [toN] at this
      have h6 : ¬ EdB m (nb l i) := of_decide_eq_false (by rw [Bool.not_eq_true'] at h4; exact h4)
      exact h6 this
    · rw [m_slices_ContainsFunc_eq, m_slices_IndexFunc_eq, h5]
      have : decide ((0 : Int) ≤ (i : Int)) = true := dT (by omega)
      simp [h1, h2, h3']
def lp (b : Bool) : Unit ⊕ Unit := bif b then .inl () else .inr ()
theorem searchB {B : Int → Option (Int ⊕ (Unit ⊕ Unit))} {n : Nat} (p : Nat → Bool) (hn : n < 1180591620717411303424)
    (h1 : ∀ i : Nat, i < n → B (i : Int) = some (bif p i then .inr (.inl ()) else .inl ((i : Int) + 1))) (h2 : B (n : Int) = some (.inr (.inr ()))) : loop B 0 = some (lp ((List.range n).any p)) := by
  rcases search p (fun _ => Sum.inl ()) (Sum.inr ()) hn h1 h2 with ⟨h3, h4⟩ | ⟨i, hi, h3, _, h4⟩
  · have : (List.range n).any p = false := by
      rw [List.any_eq_false]
      intro i hi
      rw [h3 i (List.mem_range.1 hi)]; simp
    rw [this]; exact h4
  · have : (List.range n).any p = true := by
      rw [List.any_eq_true]
      exact ⟨i, List.mem_range.2 hi, h3⟩
    rw [this]; exact h4
theorem any_f {n : Nat} {p : Nat → Bool} : (List.range n).any p = false ↔ ∀ i, i < n → p i = false := by
  rw [List.any_eq_false]
  exact ⟨fun h i hi => by simpa using h i (List.mem_range.2 hi), fun h i hi => by simpa using h i (List.mem_range.1 hi)⟩
theorem any_t {n : Nat} {p : Nat → Bool} : (List.range n).any p = true ↔ ∃ i, i < n ∧ p i = true := by
  rw [List.any_eq_true]
  exact ⟨fun ⟨i, hi, h⟩ => ⟨i, List.mem_range.1 hi, h⟩, fun ⟨i, hi, h⟩ => ⟨i, List.mem_range.2 hi, h⟩⟩
theorem p_refValid {n : Int} {l : List Bd} (hl : l.length ≤ 1000) : (Vld n l ∧ m_ref45_Valid std n l = some true) ∨ (¬ Vld n l ∧ m_ref45_Valid std n l = some false) := by
  rw [m_ref45_Valid_eq]
  by_cases h1 : n < 1
  · exact .inr ⟨fun h => by have := h.n1; omega, by simp [h1]⟩
  by_cases h2 : 24 < n
  · exact .inr ⟨fun h => by have := h.n24; omega, by simp [h1, h2]⟩
  by_cases h3 : 200 < l.length
  · exact .inr ⟨fun h => by have := h.len; omega, by have : (200 : Int) < ((l.length : Nat) : Int) := by omega
                                                     simp [h1, h2, this]⟩
  have h3' : ¬ (200 : Int) < ((l.length : Nat) : Int) := by omega
  obtain ⟨m, rfl⟩ : ∃ m : Nat, n = (m : Int) := ⟨n.toNat, by omega⟩
  have hs := searchB (B := m_ref45_Valid_L1 std l (m : Int)) (n := l.length) (fun i => !decide (EdB m (nb l i))) (by omega) (fun i hi => by
      rw [m_ref45_Valid_L1_eq]
      simp only [toN, nb_get]
      refine bT (dT (by omega)) (gX (by omega) (gK hi (bB (v := !decide (EdB m (nb l i))) ?_ ?_)))
      · obtain ⟨x, y, z⟩ := nb l i
        unfold EdB
        by_cases a1 : x < 0
        · have : ¬ 0 ≤ x := by omega
          simp [a1, this]
        by_cases a2 : (m : Int) ≤ x
        · have : ¬ x < (m : Int) := by omega
          simp [a1, a2, this]
        by_cases a3 : y < 0
        · have : ¬ 0 ≤ y := by omega
          simp [a1, a2, a3, this]
        by_cases a4 : (m : Int) ≤ y
        · have : ¬ y < (m : Int) := by omega
          simp [a1, a2, a3, a4, this]
        by_cases a5 : z < -1073741824
        · have : ¬ -1073741824 ≤ z := by omega
          simp [a1, a2, a3, a4, a5, this]
        · have b1 : 0 ≤ x := by omega
          have b2 : x < (m : Int) := by omega
          have b3 : 0 ≤ y := by omega
          have b4 : y < (m : Int) := by omega
          have b5 : -1073741824 ≤ z := by omega
          have b6 : decide (1073741824 < z) = !decide (z ≤ 1073741824) := by
            by_cases a6 : 1073741824 < z
            · have : ¬ z ≤ 1073741824 := by omega
              simp [a6, this]
            · have : z ≤ 1073741824 := by omega
              simp [a6, this]
          simp [a1, a2, a3, a4, a5, b1, b2, b3, b4, b5, b6]
      · cases decide (EdB m (nb l i)) with
        | true => exact gI (by omega) rfl
        | false => rfl) (by
      rw [m_ref45_Valid_L1_eq]
      exact bF (dF (by omega)) rfl)
  cases hp : (List.range l.length).any (fun i => !decide (EdB m (nb l i))) with
  | false =>
    left
    rw [hp] at hs
    refine ⟨⟨by omega, by omega, by omega, fun e he => ?_⟩, by rw [hs]; simp [h1, h2, h3', lp]⟩
    obtain ⟨k, hk, rfl⟩ := mem_nb he
    have := any_f.1 hp k hk
    rw [toN]
    exact edok.2 (of_decide_eq_true (by simpa only [Bool.not_eq_false'] using this))
  | true =>
    right
    rw [hp] at hs
    refine ⟨fun h => ?_, by rw [hs]; simp [h1, h2, h3', lp]⟩
    obtain ⟨i, hi, h4⟩ := any_t.1 hp
    have := edok.1 (h.ok _ (nb_mem hi))
    rw [toN] at this
    have h6 : ¬ EdB m (nb l i) := of_decide_eq_false (by rw [Bool.not_eq_true'] at h4; exact h4)
    exact h6 this

/-! equal matrices, closed ones -/
theorem p_Same {n : Nat} (hn : n ≤ 24) (f : Mx) : m_ref45_Same std (mat n f) (mat n f) = some true := by
  rw [m_ref45_Same_eq]
  refine bF (nF (eT rfl)) ?_
  have h1 : ∀ i, i < n → loop (m_ref45_Same_L1 std (mat n f) (mat n f) (i : Int)) 0 = some (.inr ()) := by
    intro i hi
    refine loop_to' (n := n) (fun j => (j : Int)) (by omega) (fun j hj => ?_) ?_
    · rw [m_ref45_Same_L1_eq]
      simp only [toN, mat_row hi, rw_len]
      exact bT (dT (by omega)) (gX (by omega) (gK hj (gX (by omega) (gK hj (bF (nF (eT rfl)) (gI (by omega) rfl))))))
    · rw [m_ref45_Same_L1_eq]
      simp only [toN, mat_row hi, rw_len]
      exact bF (dF (by omega)) rfl
  have h2 : loop (m_ref45_Same_L2 std (mat n f) (mat n f)) 0 = some (.inr ()) := by
    refine loop_to' (n := n) (fun j => (j : Int)) (by omega) (fun j hj => ?_) ?_
    · rw [m_ref45_Same_L2_eq]
      simp only [toN, mat_len]
      exact bT (dT (by omega)) (gX (by omega) (gK hj (gX (by omega) (gK hj (bF (nF (eT rfl)) (bB (h1 j hj) (gI (by omega) rfl)))))))
    · rw [m_ref45_Same_L2_eq]
      simp only [mat_len]
      exact bF (dF (by omega)) rfl
  exact bB h2 rfl
/-- what a closed matrix is -/
def ent (m : List (List Int)) : Mx := fun i j => (m.getD i []).getD j 0
structure RwOk (n : Nat) (m : List (List Int)) (i : Nat) : Prop where
  len : (m.getD i []).length = n
  bd : ∀ j, j < n → ent m i j = inf ∨ (-68719476736 ≤ ent m i j ∧ ent m i j ≤ 68719476736)
  dia : ent m i i = 0
structure ClM (m : List (List Int)) : Prop where
  n1 : 1 ≤ m.length
  n24 : m.length ≤ 24
  row : ∀ i, i < m.length → RwOk m.length m i
  cl : ∀ i j k, i < m.length → j < m.length → k < m.length → ent m i j ≠ inf → ent m j k ≠ inf → ent m i k ≤ ent m i j + ent m j k
/-- an entry that is refused -/
def badE (x : Int) : Bool := !(x == inf) && (decide (x < -68719476736) || decide (68719476736 < x))
def rowB (m : List (List Int)) (i : Nat) : Bool := ((m.getD i []).length == m.length) && (!(List.range m.length).any fun j => badE (ent m i j)) && (ent m i i == 0)
def triB (m : List (List Int)) (i j k : Nat) : Bool := !(ent m i j == inf) && (!(ent m j k == inf) && decide (ent m i j + ent m j k < ent m i k))
def tri2 (m : List (List Int)) (i j : Nat) : Bool := (List.range m.length).any (triB m i j)
def tri1 (m : List (List Int)) (i : Nat) : Bool := (List.range m.length).any (tri2 m i)
def tri0 (m : List (List Int)) : Bool := (List.range m.length).any (tri1 m)
theorem badE_f {x : Int} : badE x = false ↔ x = inf ∨ (-68719476736 ≤ x ∧ x ≤ 68719476736) := by
  unfold badE
  by_cases h : x = inf
  · simp [h]
  · by_cases h1 : x < -68719476736 <;> by_cases h2 : 68719476736 < x <;> simp [h, h1, h2] <;> omega
theorem rowB_t {m : List (List Int)} {i : Nat} : rowB m i = true ↔ RwOk m.length m i := by
  unfold rowB
  constructor
  · intro h
    simp only [Bool.and_eq_true, Bool.not_eq_true', beq_iff_eq] at h
    exact ⟨h.1.1, fun j hj => badE_f.1 (any_f.1 h.1.2 j hj), h.2⟩
  · intro h
    simp only [Bool.and_eq_true, Bool.not_eq_true', beq_iff_eq]
    exact ⟨⟨h.len, any_f.2 fun j hj => badE_f.2 (h.bd j hj)⟩, h.dia⟩
theorem triB_f {m : List (List Int)} {i j k : Nat} : triB m i j k = false ↔ (ent m i j ≠ inf → ent m j k ≠ inf → ent m i k ≤ ent m i j + ent m j k) := by
  unfold triB
  by_cases h1 : ent m i j = inf
  · simp [h1]
  · by_cases h2 : ent m j k = inf
    · simp [h1, h2]
    · by_cases h3 : ent m i j + ent m j k < ent m i k
      · simp [h1, h2, h3]
      · have h4 : ent m i k ≤ ent m i j + ent m j k := by omega
        simp [h1, h2, h4]
def clB (m : List (List Int)) : Bool := decide (1 ≤ m.length ∧ m.length ≤ 24) && ((!(List.range m.length).any fun i => !rowB m i) && !tri0 m)
theorem clB_t {m : List (List Int)} : clB m = true ↔ ClM m := by
  unfold clB
  simp only [Bool.and_eq_true, Bool.not_eq_true', decide_eq_true_iff]
  constructor
  · rintro ⟨⟨h1, h2⟩, h3, h4⟩
    refine ⟨h1, h2, fun i hi => rowB_t.1 ?_, fun i j k hi hj hk => triB_f.1 ?_⟩
    · have := any_f.1 h3 i hi
      simpa only [Bool.not_eq_false'] using this
    · exact any_f.1 (any_f.1 (any_f.1 h4 i hi) j hj) k hk
  · intro h
    refine ⟨⟨h.n1, h.n24⟩, any_f.2 fun i hi => ?_, any_f.2 fun i hi => any_f.2 fun j hj => any_f.2 fun k hk => triB_f.2 (h.cl i j k hi hj hk)⟩
    rw [rowB_t.2 (h.row i hi)]; rfl
theorem ent_bd {m : List (List Int)} (hrow : ∀ i, i < m.length → RwOk m.length m i) {i j : Nat} (hi : i < m.length) (hj : j < m.length) : -68719476736 ≤ ent m i j ∧ ent m i j ≤ inf := by
  rcases (hrow i hi).bd j hj with h | h
  · rw [h]; unfold inf; omega
  · unfold inf; omega
/-- two loops, one in the other -/
theorem nest {n : Nat} (hn : n ≤ 24) {p : Nat → Bool} {B I : Int → Option (Int ⊕ (Unit ⊕ Unit))} {L : Int → Option (Unit ⊕ Unit)} (hB : ∀ x, B x = (bif (decide (x < (n : Int))) then Option.bind (L x) fun e => match e with
      | .inl _ => (some (Sum.inr (Sum.inl ())))
      | .inr (_) => grd (okI .i64 ((x + 1))) <| (some (Sum.inl (x + 1)))
    else (some (Sum.inr (Sum.inr ()))))) (hL : ∀ i : Nat, i < n → L (i : Int) = some (lp (p i))) : loop B 0 = some (lp ((List.range n).any p)) := by
  have _ := I
  refine searchB p (by omega) (fun i hi => ?_) ?_
  · rw [hB]
    refine bT (dT (by omega)) (bB (hL i hi) ?_)
    cases p i with
    | true => rfl
    | false => exact gI (by omega) rfl
  · rw [hB]
    exact bF (dF (by omega)) rfl
theorem p_refClosed (m : List (List Int)) : m_ref45_Closed std m = some (clB m) := by
  obtain ⟨n, hn⟩ : ∃ n, n = m.length := ⟨_, rfl⟩
  rw [m_ref45_Closed_eq, ← hn]
  by_cases h1 : n < 1
  · have : ((n : Nat) : Int) < 1 := by omega
    have e : ¬ (1 ≤ n ∧ n ≤ 24) := by omega
    simp [this, clB, ← hn, e]
  by_cases h2 : 24 < n
  · have e1 : ¬ ((n : Nat) : Int) < 1 := by omega
    have e2 : (24 : Int) < ((n : Nat) : Int) := by omega
    have e : ¬ (1 ≤ n ∧ n ≤ 24) := by omega
    simp [e1, e2, clB, ← hn, e]
  have e1 : ¬ ((n : Nat) : Int) < 1 := by omega
  have e2 : ¬ (24 : Int) < ((n : Nat) : Int) := by omega
  have e3 : 1 ≤ n ∧ n ≤ 24 := by omega
  have hrow : loop (m_ref45_Closed_L2 std m) 0 = some (lp ((List.range n).any fun i => !rowB m i)) := by
    refine searchB _ (by omega) (fun i hi => ?_) ?_
    · rw [m_ref45_Closed_L2_eq, ← hn]
      simp only [toN]
      refine bT (dT (by omega)) (gX (by omega) (gK hi ?_))
      by_cases hlen : (m.getD i []).length = n
      · have hl1 : loop (m_ref45_Closed_L1 std (i : Int) m) 0 = some (lp ((List.range n).any fun j => badE (ent m i j))) := by
          refine searchB _ (by omega) (fun j hj => ?_) ?_
          · rw [m_ref45_Closed_L1_eq, ← hn]
            simp only [toN, hlen]
            refine bT (dT (by omega)) (bB (v := badE (ent m i j)) ?_ ?_)
            · show _ = some (!(ent m i j == inf) && (decide (ent m i j < -68719476736) || decide (68719476736 < ent m i j)))
              show (bif !(ent m i j == 4398046511104) then (bif decide (ent m i j < -68719476736) then _ else _) else _) = _
              cases hx : (ent m i j == inf) with
              | true => exact bF (nF hx) (gX (by omega) (gK hj rfl))
              | false =>
                refine bT (nT hx) ?_
                cases hy : decide (ent m i j < -68719476736) with
                | true => exact gX (by omega) (gK hj rfl)
                | false => exact gX (by omega) (gK hj rfl)
            · cases badE (ent m i j) with
              | true => rfl
              | false => exact gI (by omega) rfl
          · rw [m_ref45_Closed_L1_eq, ← hn]
            exact bF (dF (by omega)) rfl
        refine bF (nF (eT (by rw [hlen]))) (bB hl1 ?_)
        have hr : rowB m i = ((!(List.range n).any fun j => badE (ent m i j)) && (ent m i i == 0)) := by
          unfold rowB; rw [← hn, hlen]; simp
        rw [hr]
        cases (List.range n).any fun j => badE (ent m i j) with
        | true => rfl
        | false =>
          show grd (okIdx (i : Int) (m.getD i []).length) (grd (okKin i (m.getD i []).length) (bif !(ent m i i == 0) then _ else _)) = _
          rw [hlen]
          refine gX (by omega) (gK hi ?_)
          cases (ent m i i == 0) with
          | true => exact gI (by omega) rfl
          | false => rfl
      · have hr : rowB m i = false := by
          unfold rowB; rw [← hn]
          have : ((m.getD i []).length == n) = false := by simpa using hlen
          rw [this]; rfl
        rw [hr]
        exact bT (nT (eF (by omega))) rfl
    · rw [m_ref45_Closed_L2_eq, ← hn]
      exact bF (dF (by omega)) rfl
  refine bB (v := false) (by simp [e1, e2]) (bF rfl (bB hrow ?_))
  cases hr : (List.range n).any fun i => !rowB m i with
  | true =>
    show some false = some (clB m)
    unfold clB
    rw [← hn, hr]; simp
  | false =>
    have hall : ∀ i, i < m.length → RwOk m.length m i := fun i hi => rowB_t.1 (by simpa using any_f.1 hr i (by rw [hn]; exact hi))
    have hlen : ∀ i, i < n → (m.getD i []).length = n := fun i hi => by rw [(hall i (by omega)).len, hn]
    have h3 : ∀ i j, i < n → j < n → loop (m_ref45_Closed_L3 std (i : Int) (j : Int) m) 0 = some (lp (tri2 m i j)) := by
      intro i j hi hj
      unfold tri2
      rw [← hn]
      refine searchB _ (by omega) (fun k hk => ?_) ?_
      · rw [m_ref45_Closed_L3_eq, ← hn]
        simp only [toN, hlen i hi, hlen j hj]
        have b1 := ent_bd hall (i := i) (j := j) (by omega) (by omega)
        have b2 := ent_bd hall (i := j) (j := k) (by omega) (by omega)
        refine bT (dT (by omega)) (bB (v := triB m i j k) ?_ ?_)
        · show _ = some (!(ent m i j == inf) && (!(ent m j k == inf) && decide (ent m i j + ent m j k < ent m i k)))
          show (bif !(ent m i j == 4398046511104) then (bif !(ent m j k == 4398046511104) then _ else _) else _) = _
          unfold inf at b1 b2
          cases hx : (ent m i j == inf) with
          | true => exact bF (nF hx) (gX (by omega) (gK hi (gX (by omega) (gK hj rfl))))
          | false =>
            refine bT (nT hx) ?_
            cases hy : (ent m j k == inf) with
            | true => exact bF (nF hy) (gX (by omega) (gK hi (gX (by omega) (gK hj (gX (by omega) (gK hj (gX (by omega) (gK hk rfl))))))))
            | false => exact bT (nT hy) (gX (by omega) (gK hi (gX (by omega) (gK hj (gX (by omega) (gK hj (gX (by omega) (gK hk (gX (by omega) (gK hk (gI (by show _ ≤ ent m i j + ent m j k ∧ ent m i j + ent m j k ≤ _; omega) rfl)))))))))))
        · cases triB m i j k with
          | true => rfl
          | false => exact gI (by omega) rfl
      · rw [m_ref45_Closed_L3_eq, ← hn]
        exact bF (dF (by omega)) rfl
    have h4 : ∀ i, i < n → loop (m_ref45_Closed_L4 std (i : Int) m) 0 = some (lp (tri1 m i)) := fun i hi => by
      unfold tri1
      rw [← hn]
      exact nest e3.2 (I := fun _ => none) (L := fun j => loop (m_ref45_Closed_L3 std (i : Int) j m) 0) (fun x => by rw [m_ref45_Closed_L4_eq, ← hn]; rfl) (fun j hj => h3 i j hi hj)
    have h5 : loop (m_ref45_Closed_L5 std m) 0 = some (lp (tri0 m)) := by
      unfold tri0
      rw [← hn]
      exact nest e3.2 (I := fun _ => none) (L := fun i => loop (m_ref45_Closed_L4 std i m) 0) (fun x => by rw [m_ref45_Closed_L5_eq, ← hn]; rfl) h4
    show (Option.bind (loop (m_ref45_Closed_L5 std m) 0) fun e => match e with
      | .inl _ => (some false)
      | .inr (_) => (some true)) = some (clB m)
    refine bB h5 ?_
    unfold clB
    rw [← hn, hr, decide_eq_true e3]
    cases tri0 m <;> rfl
theorem p_awake : m_law45_awake std = some true := by kernel_rfl
end Go.Proofs.Ytegmjohhgedakaa
