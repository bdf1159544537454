/-
  Networks of bounds: schedules.
-/
import Derived.Test.YtegmjohhgedakaaB3
namespace Go.Proofs.Ytegmjohhgedakaa
open Go.RowKit Fw

theorem contains {B : Int → Option (Int ⊕ (Int ⊕ Unit))} {n : Nat} (p : Nat → Bool) (hn : n < 1180591620717411303424)
    (h1 : ∀ i : Nat, i < n → B (i : Int) = some (bif p i then .inr (.inl (i : Int)) else .inl ((i : Int) + 1))) (h2 : B (n : Int) = some (.inr (.inr ()))) :
    (Option.bind (Option.bind (loop B 0) fun e => match e with
      | .inl x => (some x)
      | .inr (_) => (some (-1))) fun n => (some (decide (0 ≤ n))) : Option Bool) = some ((List.range n).any p) := by
  rcases search p (fun i => Sum.inl (i : Int)) (.inr ()) hn h1 h2 with ⟨h3, h4⟩ | ⟨i, hi, h3, _, h4⟩
  · rw [h4, any_f.2 h3]; rfl
  · rw [h4, any_t.2 ⟨i, hi, h3⟩]
    exact congrArg some (dT (by omega))
/-- times that satisfy a network -/
structure Hd (l : List Bd) (a : List Int) : Prop where
  v : Vld ((a.length : Nat) : Int) l
  bd : ∀ i, i < a.length → -4398046511104 ≤ a.getD i 0 ∧ a.getD i 0 ≤ 4398046511104
  ok : ∀ e, e ∈ l → a.getD e.2.1.toNat 0 - a.getD e.1.toNat 0 ≤ e.2.2
def badT (x : Int) : Bool := decide (x < -4398046511104) || decide (4398046511104 < x)
def farT (a : List Int) (e : Bd) : Bool := decide (e.2.2 < a.getD e.2.1.toNat 0 - a.getD e.1.toNat 0)
theorem badT_f {x : Int} : badT x = false ↔ -4398046511104 ≤ x ∧ x ≤ 4398046511104 := by
  unfold badT
  by_cases h1 : x < -4398046511104 <;> by_cases h2 : 4398046511104 < x <;> simp [h1, h2] <;> omega
theorem hd_iff {l : List Bd} {a : List Int} (hv : Vld ((a.length : Nat) : Int) l) : Hd l a ↔ ((List.range a.length).any fun i => badT (a.getD i 0)) = false ∧ ((List.range l.length).any fun k => farT a (nb l k)) = false := by
  constructor
  · intro h
    exact ⟨any_f.2 fun i hi => badT_f.2 (h.bd i hi), any_f.2 fun k hk => dF (by have := h.ok _ (nb_mem hk); omega)⟩
  · rintro ⟨h1, h2⟩
    refine ⟨hv, fun i hi => badT_f.1 (any_f.1 h1 i hi), fun e he => ?_⟩
    obtain ⟨k, hk, rfl⟩ := mem_nb he
    have := of_decide_eq_false (any_f.1 h2 k hk)
    omega
theorem p_refHolds {l : List Bd} {a : List Int} (hl : l.length ≤ 1000) (ha : a.length ≤ 1000) : (Hd l a ∧ m_ref45_Holds std l a = some true) ∨ (¬ Hd l a ∧ m_ref45_Holds std l a = some false) := by
  rw [m_ref45_Holds_eq]
  rcases p_refValid (n := ((a.length : Nat) : Int)) (l := l) hl with ⟨hv, hV⟩ | ⟨hv, hV⟩
  · have h1 : loop (m_ref45_Holds_L1 std a) 0 = some (lp ((List.range a.length).any fun i => badT (a.getD i 0))) := by
      refine searchB _ (by omega) (fun i hi => ?_) ?_
      · rw [m_ref45_Holds_L1_eq]
        simp only [toN]
        refine bT (dT (by omega)) (bB (v := badT (a.getD i 0)) ?_ ?_)
        · unfold badT
          cases decide (a.getD i 0 < -4398046511104) with
          | true => exact gX (by omega) (gK hi rfl)
          | false => exact gX (by omega) (gK hi rfl)
        · cases badT (a.getD i 0) with
          | true => rfl
          | false => exact gI (by omega) rfl
      · rw [m_ref45_Holds_L1_eq]
        exact bF (dF (by omega)) rfl
    have hd := hd_iff hv
    cases hb : (List.range a.length).any fun i => badT (a.getD i 0) with
    | true =>
      rw [hb] at h1 hd
      exact .inr ⟨fun h => by have := (hd.1 h).1; simp at this, bB hV (bF rfl (bB h1 rfl))⟩
    | false =>
      have hbd : ∀ i, i < a.length → -4398046511104 ≤ a.getD i 0 ∧ a.getD i 0 ≤ 4398046511104 := fun i hi => badT_f.1 (any_f.1 hb i hi)
      rw [hb] at h1 hd
      have h2 : loop (m_ref45_Holds_L2 std a l) 0 = some (lp ((List.range l.length).any fun k => farT a (nb l k))) := by
        refine searchB _ (by omega) (fun k hk => ?_) ?_
        · rw [m_ref45_Holds_L2_eq]
          simp only [toN, nb_get]
          have he := hv.ok _ (nb_mem hk)
          rw [toN] at he
          have i0 := he.i0; have i1 := he.i1; have j0 := he.j0; have j1 := he.j1
          have b1 := hbd (nb l k).1.toNat (by omega)
          have b2 := hbd (nb l k).2.1.toNat (by omega)
          refine bT (dT (by omega)) (gX (by omega) (gK hk (gX (by omega) (gK (by omega) (gX (by omega) (gK (by omega) (gI (by omega) ?_)))))))
          unfold farT
          cases decide ((nb l k).2.2 < a.getD (nb l k).2.1.toNat 0 - a.getD (nb l k).1.toNat 0) with
          | true => rfl
          | false => exact gI (by omega) rfl
        · rw [m_ref45_Holds_L2_eq]
          exact bF (dF (by omega)) rfl
      cases hf : (List.range l.length).any fun k => farT a (nb l k) with
      | true =>
        rw [hf] at h2 hd
        exact .inr ⟨fun h => by have := (hd.1 h).2; simp at this, bB hV (bF rfl (bB h1 (bB h2 rfl)))⟩
      | false =>
        rw [hf] at h2 hd
        exact .inl ⟨hd.2 ⟨rfl, rfl⟩, bB hV (bF rfl (bB h1 (bB h2 rfl)))⟩
  · exact .inr ⟨fun h => hv h.v, bB hV rfl⟩
theorem p_Holds {l : List Bd} {a : List Int} (hl : l.length ≤ 1000) (ha : a.length ≤ 1000) : (Hd l a ∧ m_bounds_Holds std l a = some true) ∨ (¬ Hd l a ∧ m_bounds_Holds std l a = some false) := by
  rw [m_bounds_Holds_eq]
  rcases p_Valid (n := ((a.length : Nat) : Int)) (l := l) hl with ⟨hv, hV⟩ | ⟨hv, hV⟩
  · have h1 : m_slices_ContainsFunc_7 std a = some ((List.range a.length).any fun i => badT (a.getD i 0)) := by
      rw [m_slices_ContainsFunc_7_eq, m_slices_IndexFunc_7_eq]
      refine contains _ (by omega) (fun i hi => ?_) ?_
      · rw [m_slices_IndexFunc_7_L1_eq]
        simp only [toN]
        refine bT (dT (by omega)) (gX (by omega) (gK hi (bB (v := badT (a.getD i 0)) ?_ ?_)))
        · rw [m_bounds_Holds_1_eq]
          unfold badT
          cases decide (a.getD i 0 < -4398046511104) <;> rfl
        · cases badT (a.getD i 0) with
          | true => rfl
          | false => exact gI (by omega) rfl
      · rw [m_slices_IndexFunc_7_L1_eq]
        exact bF (dF (by omega)) rfl
    have hd := hd_iff hv
    cases hb : (List.range a.length).any fun i => badT (a.getD i 0) with
    | true =>
      rw [hb] at h1 hd
      exact .inr ⟨fun h => by have := (hd.1 h).1; simp at this, bB (v := true) (bB hV (bF rfl (bB h1 rfl))) rfl⟩
    | false =>
      have hbd : ∀ i, i < a.length → -4398046511104 ≤ a.getD i 0 ∧ a.getD i 0 ≤ 4398046511104 := fun i hi => badT_f.1 (any_f.1 hb i hi)
      rw [hb] at h1 hd
      have h2 : m_slices_ContainsFunc_8 std l a = some ((List.range l.length).any fun k => farT a (nb l k)) := by
        rw [m_slices_ContainsFunc_8_eq, m_slices_IndexFunc_8_eq]
        refine contains _ (by omega) (fun k hk => ?_) ?_
        · rw [m_slices_IndexFunc_8_L1_eq]
          simp only [toN, nb_get]
          have he := hv.ok _ (nb_mem hk)
          rw [toN] at he
          have i0 := he.i0; have i1 := he.i1; have j0 := he.j0; have j1 := he.j1
          have b1 := hbd (nb l k).1.toNat (by omega)
          have b2 := hbd (nb l k).2.1.toNat (by omega)
          refine bT (dT (by omega)) (gX (by omega) (gK hk (bB (v := farT a (nb l k)) ?_ ?_)))
          · rw [m_bounds_Holds_2_eq]
            exact gX (by omega) (gK (by omega) (gX (by omega) (gK (by omega) (gI (by omega) rfl))))
          · cases farT a (nb l k) with
            | true => rfl
            | false => exact gI (by omega) rfl
        · rw [m_slices_IndexFunc_8_L1_eq]
          exact bF (dF (by omega)) rfl
      cases hf : (List.range l.length).any fun k => farT a (nb l k) with
      | true =>
        rw [hf] at h2 hd
        exact .inr ⟨fun h => by have := (hd.1 h).2; simp at this, bB (v := false) (bB hV (bF rfl (bB h1 rfl))) (bF rfl (bB h2 rfl))⟩
      | false =>
        rw [hf] at h2 hd
        exact .inl ⟨hd.2 ⟨rfl, rfl⟩, bB (v := false) (bB hV (bF rfl (bB h1 rfl))) (bF rfl (bB h2 rfl))⟩
  · exact .inr ⟨fun h => hv h.v, bB (v := true) (bB hV rfl) rfl⟩
theorem Vld.valid {n : Int} {l : List Bd} (h : Vld n l) : m_bounds_Valid std n l = some true := by
  rcases p_Valid (n := n) (l := l) (by have := h.len; omega) with ⟨_, g⟩ | ⟨g, _⟩
  · exact g
  · exact absurd h g
theorem Vld.Tight {n : Int} {l : List Bd} (h : Vld n l) : (Cons n.toNat (M0 l) ∧ m_bounds_Tight std n l = some (mat n.toNat (Ti n.toNat l), 0)) ∨ (¬ Cons n.toNat (M0 l) ∧ m_bounds_Tight std n l = some ([], 17)) := by
  rw [m_bounds_Tight_eq]
  rcases h.tight with ⟨hc, h1, _⟩ | ⟨hc, h1, _⟩
  · exact .inl ⟨hc, bB h.valid (bF rfl (bB h1 rfl))⟩
  · exact .inr ⟨hc, bB h.valid (bF rfl (bB h1 rfl))⟩
theorem not_Tight {n : Int} {l : List Bd} (hl : l.length ≤ 1000) (h : ¬ Vld n l) : m_bounds_Tight std n l = some ([], 1) := by
  rcases p_Valid (n := n) (l := l) hl with ⟨g, _⟩ | ⟨_, g⟩
  · exact absurd g h
  · rw [m_bounds_Tight_eq]; exact bB g rfl
theorem rep0 (n : Nat) : List.replicate n (0 : Int) = rw' n (fun _ => 0) := by
  refine List.ext_getElem? fun b => ?_
  simp only [rw', List.getElem?_map, List.getElem?_replicate]
  by_cases hb : b < n
  · simp [hb]
  · simp [hb]
/-- the earliest times -/
theorem p_Earliest {n : Int} {l : List Bd} (h : Vld n l) : (¬ Cons n.toNat (M0 l) ∧ m_bounds_Earliest std n l = some ([], 17)) ∨
    (Cons n.toNat (M0 l) ∧ (∃ j, j < n.toNat ∧ Ti n.toNat l j 0 = inf) ∧ m_bounds_Earliest std n l = some ([], 18)) ∨
    (Cons n.toNat (M0 l) ∧ (∀ j, j < n.toNat → Ti n.toNat l j 0 ≠ inf) ∧ m_bounds_Earliest std n l = some (rw' n.toNat (fun j => -(Ti n.toNat l j 0)), 0)) := by
  have e := h.nat
  have h1 := h.n1
  have h24 := h.n24
  rcases h.Tight with ⟨hc, ht⟩ | ⟨hc, ht⟩
  · right
    have hC := h.clo hc
    obtain ⟨m, hm⟩ : ∃ m, m = n.toNat := ⟨_, rfl⟩
    rw [← hm] at e hC ht hc ⊢
    obtain ⟨f, hf⟩ : ∃ f, f = Ti m l := ⟨_, rfl⟩
    rw [← hf] at hC ht ⊢
    have key : ∃ r, loop (m_bounds_Earliest_L1 std (mat m f) n) (0, List.replicate m 0) = some r ∧ ((r = .inl () ∧ ∃ j, j < m ∧ f j 0 = inf) ∨ (r = .inr (rw' m fun j => -(f j 0)) ∧ ∀ j, j < m → f j 0 ≠ inf)) := by
      refine loop_is (fun y => ∃ i : Nat, y = ((i : Int), rw' m (fun j => if j < i then -(f j 0) else 0)) ∧ i ≤ m ∧ ∀ j, j < i → f j 0 ≠ inf) (fun y => m - y.1.toNat) _ ⟨0, Prod.ext rfl ?_, Nat.zero_le _, fun j hj => by omega⟩ (by show m - _ < _; omega) ?_
      · exact (rep0 m).trans (rw_ext fun j _ => by simp)
      · rintro _ ⟨i, rfl, hi, hp⟩
        rw [m_bounds_Earliest_L1_eq]
        by_cases hlt : i < m
        · simp only [toN, mat_len, mat_row hlt, rw_len]
          have z0 : (0 : Int).toNat = 0 := rfl
          have hb := clo_bd2 hC hlt (show 0 < m by omega)
          unfold inf at hb
          rw [z0, rw_get (show 0 < m by omega)]
          by_cases hx : f i 0 = inf
          · exact ⟨_, bT (dT (by omega)) (gX (by omega) (gK hlt (gX (by omega) (gK (by omega) (bT (eT hx) rfl))))), .inl ⟨rfl, i, hlt, hx⟩⟩
          · refine ⟨_, bT (dT (by omega)) (gX (by omega) (gK hlt (gX (by omega) (gK (by omega) (bF (eF hx) (gI (by omega) (gX (by omega) (gK hlt (gI (by omega) rfl))))))))), ⟨i + 1, Prod.ext (by simp) ?_, by omega, fun j hj => ?_⟩, by show m - (_ : Int).toNat < m - _; omega⟩
            · show (rw' m _).set i _ = _
              rw [rw_set]
              refine rw_ext fun j _ => ?_
              by_cases ej : j = i
              · subst ej; simp
              · by_cases hj : j < i
                · have : j < i + 1 := by omega
                  simp [ej, hj, this]
                · have : ¬ j < i + 1 := by omega
                  simp [ej, hj, this]
            · by_cases ej : j = i
              · subst ej; exact hx
              · exact hp j (by omega)
        · obtain rfl : i = m := by omega
          exact ⟨_, bF (dF (by omega)) rfl, .inr ⟨congrArg Sum.inr (rw_ext fun j hj => if_pos hj), hp⟩⟩
    have hd : ∀ r, (Option.bind (loop (m_bounds_Earliest_L1 std (mat m f) n) (0, List.replicate m 0)) fun e => match e with
        | .inl _ => (some (([] : List Int), (18 : Int)))
        | .inr (l7) => (some (l7, (0 : Int)))) = r → m_bounds_Earliest std n l = r := fun r hr => by
      rw [m_bounds_Earliest_eq]
      refine bB ht (bF rfl (gG (by omega) (gR (by omega) ?_)))
      rw [← hm]; exact hr
    obtain ⟨r, h3, ⟨rfl, h4⟩ | ⟨rfl, h4⟩⟩ := key
    · exact .inl ⟨hc, h4, hd _ (bB h3 rfl)⟩
    · exact .inr ⟨hc, h4, hd _ (bB h3 rfl)⟩
  · exact .inl ⟨hc, by rw [m_bounds_Earliest_eq]; exact bB ht rfl⟩
theorem not_Earliest {n : Int} {l : List Bd} (hl : l.length ≤ 1000) (h : ¬ Vld n l) : m_bounds_Earliest std n l = some ([], 1) := by
  rw [m_bounds_Earliest_eq]; exact bB (not_Tight hl h) rfl

/-- the network with an end -/
def endL (n : Nat) (l : List Bd) (z : Int) (k : Nat) : List Bd := l ++ (List.range k).map fun (j : Nat) => ((0 : Int), (j : Int), z)
theorem endL_step (n : Nat) (l : List Bd) (z : Int) (k : Nat) : endL n l z k ++ [(0, (k : Int), z)] = endL n l z (k + 1) := by
  unfold endL; rw [List.range_succ, List.map_append, List.append_assoc]; rfl
theorem endL_len (n : Nat) (l : List Bd) (z : Int) (k : Nat) : (endL n l z k).length = l.length + k := by simp [endL]
theorem endL_mem {n : Nat} {l : List Bd} {z : Int} {k : Nat} {e : Bd} : e ∈ endL n l z k ↔ e ∈ l ∨ ∃ j : Nat, j < k ∧ e = (0, (j : Int), z) := by
  unfold endL
  rw [List.mem_append, List.mem_map]
  constructor
  · rintro (h | ⟨j, h1, rfl⟩)
    · exact .inl h
    · exact .inr ⟨j, List.mem_range.1 h1, rfl⟩
  · rintro (h | ⟨j, h1, rfl⟩)
    · exact .inl h
    · exact .inr ⟨j, List.mem_range.2 h1, rfl⟩
theorem endL_ok {n : Nat} {l : List Bd} (h : LOk n l) (hn : 1 ≤ n) {z : Int} (hz : 0 ≤ z ∧ z ≤ 1073741824) : LOk n (endL n l z n) := by
  intro e he
  rcases endL_mem.1 he with h1 | ⟨j, hj, rfl⟩
  · exact h e h1
  · exact edok.2 ⟨by simp, by simp; omega, by simp, by simp; omega, by simp; omega, by simp; omega⟩
theorem p_Ended {n : Nat} {l : List Bd} (hl : l.length ≤ 1000) (hn : n ≤ 24) (z : Int) : m_ref45_Ended std (n : Int) z l = some (endL n l z n) := by
  rw [m_ref45_Ended_eq]
  refine gR (by simp) (gR (by omega) (bB (v := endL n l z n) ?_ rfl))
  have h0 : ([] : List Bd) ++ l = endL n l z 0 := by simp [endL]
  rw [h0]
  refine loop_up (n := n) (fun k => endL n l z k) (by omega) (fun k hk => ?_) ?_
  · rw [m_ref45_Ended_L1_eq]
    refine bT (dT (by omega)) (gR (by rw [endL_len]; omega) (gR (by simp) (gI (by omega) ?_)))
    rw [endL_step]; rfl
  · rw [m_ref45_Ended_L1_eq]
    exact bF (dF (by omega)) rfl
def offB (z : Int) : Bool := decide (z < 0 ∨ 1073741824 < z)
theorem off_or (z : Int) : (bif (decide (z < 0)) then (some true) else (some (decide (1073741824 < z))) : Option Bool) = some (offB z) := by
  unfold offB
  by_cases h1 : z < 0 <;> by_cases h2 : 1073741824 < z <;> simp [h1, h2]
theorem p_Latest {n : Int} {l : List Bd} (h : Vld n l) (z : Int) : (offB z = true ∧ m_bounds_Latest std n z l = some ([], 2)) ∨
    ((0 ≤ z ∧ z ≤ 1073741824) ∧ offB z = false ∧ ¬ Cons n.toNat (M0 (endL n.toNat l z n.toNat)) ∧ m_bounds_Latest std n z l = some ([], 17)) ∨
    ((0 ≤ z ∧ z ≤ 1073741824) ∧ offB z = false ∧ Cons n.toNat (M0 (endL n.toNat l z n.toNat)) ∧ m_bounds_Latest std n z l = some (rw' n.toNat (Ti n.toNat (endL n.toNat l z n.toNat) 0), 0)) := by
  have e := h.nat
  have h1 := h.n1
  have h24 := h.n24
  have hlen := h.len
  have hd : ∀ r, (bif offB z then (some (([] : List Int), (2 : Int))) else Option.bind (m_clone_i3 std l) fun l57 =>
      Option.bind (loop (m_bounds_Latest_L1 std z n) (0, l57)) fun l59 => Option.bind (m_bounds_tight std n l59) fun (l60, b39) =>
      bif (!b39) then (some (([] : List Int), 17)) else grd (okIdx 0 ((List.length l60))) <| grd (okKin ((Int.toNat 0)) ((List.length l60))) <|
        Option.bind (m_clone_i1 std ((List.getD l60 (Int.toNat 0) []))) fun l61 => (some (l61, 0))) = r → m_bounds_Latest std n z l = r := fun r hr => by
    rw [m_bounds_Latest_eq]
    exact bB h.valid (bF rfl (bB (off_or z) hr))
  cases ho : offB z with
  | true => exact .inl ⟨rfl, hd _ (by rw [ho]; rfl)⟩
  | false =>
    right
    have hz : 0 ≤ z ∧ z ≤ 1073741824 := by have := of_decide_eq_false ho; omega
    obtain ⟨m, hm⟩ : ∃ m, m = n.toNat := ⟨_, rfl⟩
    have hok := h.ok
    rw [← hm] at e hok ⊢
    have hl1 : loop (m_bounds_Latest_L1 std z n) (0, l) = some (endL m l z m) := by
      have h0 : l = endL m l z 0 := by simp [endL]
      rw [e]
      conv => lhs; rw [h0]
      refine loop_up (n := m) (fun k => endL m l z k) (by omega) (fun k hk => ?_) ?_
      · rw [m_bounds_Latest_L1_eq]
        refine bT (dT (by omega)) (gR (by rw [endL_len]; omega) (gR (by simp) (gI (by omega) ?_)))
        rw [endL_step]; rfl
      · rw [m_bounds_Latest_L1_eq]
        exact bF (dF (by omega)) rfl
    have hcl : m_clone_i3 std l = some l := by rw [m_clone_i3_eq]; exact gR (by omega) rfl
    rcases p_tight (endL_ok hok (by omega) hz) (by rw [endL_len]; omega) (show 1 ≤ m by omega) (by omega) with ⟨hc, ht⟩ | ⟨hc, ht⟩
    · refine .inr ⟨hz, rfl, hc, hd _ ?_⟩
      rw [ho]
      refine bF rfl (bB hcl (bB hl1 (bB (by rw [e]; exact ht) (bF rfl ?_))))
      have z0 : (0 : Int).toNat = 0 := rfl
      simp only [z0, mat_len, mat_row (show 0 < m by omega)]
      exact gX (by omega) (gK (by omega) (bB (by rw [m_clone_i1_eq]; exact gR (by rw [rw_len]; omega) rfl) rfl))
    · refine .inl ⟨hz, rfl, hc, hd _ ?_⟩
      rw [ho]
      exact bF rfl (bB hcl (bB hl1 (bB (by rw [e]; exact ht) rfl)))
theorem not_Latest {n : Int} {l : List Bd} (hl : l.length ≤ 1000) (h : ¬ Vld n l) (z : Int) : m_bounds_Latest std n z l = some ([], 1) := by
  rcases p_Valid (n := n) (l := l) hl with ⟨g, _⟩ | ⟨_, g⟩
  · exact absurd g h
  · rw [m_bounds_Latest_eq]; exact bB g rfl
theorem p_Equal (a : List Int) (h : a.length ≤ 1000) : m_slices_Equal std a a = some true := by
  rw [m_slices_Equal_eq]
  refine bF (nF (eT rfl)) (bB (v := .inr ()) ?_ rfl)
  refine loop_to' (n := a.length) (fun j => (j : Int)) (by omega) (fun j hj => ?_) ?_
  · rw [m_slices_Equal_L1_eq]
    simp only [toN]
    exact bT (dT (by omega)) (gX (by omega) (gK hj (gX (by omega) (gK hj (bF (nF (eT rfl)) (gI (by omega) rfl))))))
  · rw [m_slices_Equal_L1_eq]
    exact bF (dF (by omega)) rfl
end Go.Proofs.Ytegmjohhgedakaa
