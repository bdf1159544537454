/-
  Networks of bounds: what the program's and the reference's tight matrices come to.
-/
import Derived.Test.YtegmjohhgedakaaBQ
import Derived.Test.YtegmjohhgedakaaPure
import Derived.Test.YtegmjohhgedakaaFw
namespace Go.Proofs.Ytegmjohhgedakaa
open Go.RowKit Fw

theorem search {ε : Type} {B : Int → Option (Int ⊕ ε)} {n : Nat} (p : Nat → Bool) (e1 : Nat → ε) (e2 : ε) (hn : n < 1180591620717411303424)
    (h1 : ∀ i : Nat, i < n → B (i : Int) = some (bif p i then .inr (e1 i) else .inl ((i : Int) + 1))) (h2 : B (n : Int) = some (.inr e2)) :
    ((∀ i, i < n → p i = false) ∧ loop B 0 = some e2) ∨ ∃ i, i < n ∧ p i = true ∧ (∀ j, j < i → p j = false) ∧ loop B 0 = some (e1 i) := by
  rcases first_or (fun i => !p i) n with h | ⟨k, hk, hp, h⟩
  · left
    have hp : ∀ i, i < n → p i = false := fun i hi => by simpa using h i hi
    refine ⟨hp, loop_to' (n := n) (fun i => (i : Int)) hn (fun i hi => ?_) h2⟩
    rw [h1 i hi, hp i hi]; rfl
  · right
    have hp' : p k = true := by simpa using hp
    have hpj : ∀ i, i < k → p i = false := fun i hi => by simpa using h i hi
    refine ⟨k, hk, hp', hpj, loop_to' (n := k) (fun i => (i : Int)) (by omega) (fun i hi => ?_) ?_⟩
    · rw [h1 i (by omega), hpj i hi]; rfl
    · rw [h1 k hk, hp']; rfl

/-! matrices -/
def rw' (n : Nat) (g : Nat → Int) : List Int := (List.range n).map g
def mat (n : Nat) (f : Mx) : List (List Int) := (List.range n).map fun i => rw' n (f i)
theorem rw_len (n : Nat) (g : Nat → Int) : (rw' n g).length = n := by simp [rw']
theorem mat_len (n : Nat) (f : Mx) : (mat n f).length = n := by simp [mat]
theorem rw_get {n : Nat} {g : Nat → Int} {j : Nat} (h : j < n) : (rw' n g).getD j 0 = g j := by simp [rw', List.getD_eq_getElem?_getD, h]
theorem mat_row {n : Nat} {f : Mx} {i : Nat} (h : i < n) : (mat n f).getD i [] = rw' n (f i) := by simp [mat, List.getD_eq_getElem?_getD, h]
theorem rw_ext {n : Nat} {g h : Nat → Int} (e : ∀ j, j < n → g j = h j) : rw' n g = rw' n h := by
  unfold rw'
  exact List.map_congr_left fun j hj => e j (List.mem_range.1 hj)
theorem mat_ext {n : Nat} {f g : Mx} (e : ∀ i j, i < n → j < n → f i j = g i j) : mat n f = mat n g := by
  unfold mat
  exact List.map_congr_left fun i hi => rw_ext fun j hj => e i j (List.mem_range.1 hi) hj
theorem rw_set {n : Nat} {g : Nat → Int} {j : Nat} (x : Int) : (rw' n g).set j x = rw' n (fun b => if b = j then x else g b) := by
  refine List.ext_getElem? fun b => ?_
  rw [List.getElem?_set]
  simp only [rw', List.length_map, List.length_range, List.getElem?_map]
  by_cases hb : b < n
  · simp only [List.getElem?_range hb, Option.map_some]
    by_cases e : j = b
    · subst e; simp [hb]
    · simp [e, Ne.symm e]
  · have : (List.range n)[b]? = none := by simp; omega
    simp only [this, Option.map_none]
    split
    · rename_i e; subst e; simp [hb]
    · rfl
theorem mat_setrow {n : Nat} {f : Mx} {i : Nat} (g : Nat → Int) : (mat n f).set i (rw' n g) = mat n (fun a => if a = i then g else f a) := by
  refine List.ext_getElem? fun b => ?_
  rw [List.getElem?_set]
  simp only [mat, List.length_map, List.length_range, List.getElem?_map]
  by_cases hb : b < n
  · simp only [List.getElem?_range hb, Option.map_some]
    by_cases e : i = b
    · subst e; simp [hb]
    · simp [e, Ne.symm e]
  · have : (List.range n)[b]? = none := by simp; omega
    simp only [this, Option.map_none]
    split
    · rename_i e; subst e; simp [hb]
    · rfl
theorem mat_set {n : Nat} {f : Mx} {i j : Nat} (hi : i < n) (x : Int) : (mat n f).set i (((mat n f).getD i []).set j x) = mat n (fun a b => if a = i ∧ b = j then x else f a b) := by
  rw [mat_row hi, rw_set, mat_setrow]
  refine mat_ext fun a b _ _ => ?_
  by_cases e : a = i
  · subst e
    simp only [if_pos, true_and]
  · simp only [e, if_false, false_and]
theorem toN (i : Nat) : Int.toNat (i : Int) = i := Int.toNat_natCast i

/-! the step -/
theorem p_plus {a b : Int} (ha : -4611686018427387904 ≤ a ∧ a ≤ 4611686018427387904) (hb : -4611686018427387904 ≤ b ∧ b ≤ 4611686018427387904 - 1) : m_bounds_plus std a b = some (pl a b) := by
  rw [m_bounds_plus_eq]
  unfold pl
  by_cases h1 : a = inf
  · have : (a == 4398046511104) = true := eT h1
    rw [if_pos (.inl h1), this]; rfl
  · have e1 : (a == 4398046511104) = false := eF h1
    by_cases h2 : b = inf
    · have : (b == 4398046511104) = true := eT h2
      rw [if_pos (.inr h2), e1, this]; rfl
    · have e2 : (b == 4398046511104) = false := eF h2
      rw [if_neg (by rintro (h | h) <;> contradiction), e1, e2, m_integer_Add_eq]
      have e3 : okI .i64 (a + b) = true := by rw [okI64]; exact dT (by omega)
      simp only [cond_false, Option.bind_some, e3, grd, cond_true]
      rcases Int.lt_or_le a 0 with g1 | g1 <;> rcases Int.lt_or_le b 0 with g2 | g2
      · have f1 : decide (0 ≤ a) = false := dF (by omega)
        have f2 : decide (0 ≤ b) = false := dF (by omega)
        have f3 : decide (0 ≤ a + b) = false := dF (by omega)
        simp only [f1, f2, f3]; rfl
      · have f1 : decide (0 ≤ a) = false := dF (by omega)
        have f2 : decide (0 ≤ b) = true := dT (by omega)
        simp only [f1, f2]; rfl
      · have f1 : decide (0 ≤ a) = true := dT (by omega)
        have f2 : decide (0 ≤ b) = false := dF (by omega)
        simp only [f1, f2]; rfl
      · have f1 : decide (0 ≤ a) = true := dT (by omega)
        have f2 : decide (0 ≤ b) = true := dT (by omega)
        have f3 : decide (0 ≤ a + b) = true := dT (by omega)
        simp only [f1, f2, f3]; rfl
/-- bounded entries -/
def Bdd (n : Nat) (D : Int) (f : Mx) : Prop := ∀ i j, i < n → j < n → -D ≤ f i j ∧ f i j ≤ inf
theorem mn_bd {x y D : Int} (hx : -D ≤ x ∧ x ≤ inf) (hy : -D ≤ y) : -D ≤ mn x y ∧ mn x y ≤ inf := by
  refine ⟨?_, Int.le_trans (mn_le_l _ _) hx.2⟩
  rcases mn_or x y with e | ⟨e, _⟩
  · rw [e]; exact hx.1
  · rw [e]; exact hy
theorem pl_bd {a b A B : Int} (ha : -A ≤ a) (hb : -B ≤ b) (hA : 0 ≤ A) (hB : 0 ≤ B) : -(A + B) ≤ pl a b := by
  unfold pl
  split
  · unfold inf; omega
  · omega
theorem stp_bd {n : Nat} {D E : Int} {k : Nat} {r rk : Nat → Int} (hk : k < n) (hD : 0 ≤ D) (hE : 0 ≤ E) (hr : ∀ j, j < n → -D ≤ r j ∧ r j ≤ inf) (hrk : ∀ j, j < n → -E ≤ rk j ∧ rk j ≤ inf) :
    (-(D + E) ≤ mn (r k) (pl (r k) (rk k)) ∧ mn (r k) (pl (r k) (rk k)) ≤ inf) ∧ ∀ j, j < n → -(D + E + E) ≤ stp k r rk j ∧ stp k r rk j ≤ inf := by
  have h1 := mn_bd (D := D + E) (x := r k) (y := pl (r k) (rk k)) ⟨by have := (hr k hk).1; omega, (hr k hk).2⟩ (pl_bd (hr k hk).1 (hrk k hk).1 hD hE)
  refine ⟨h1, fun j hj => ?_⟩
  unfold stp
  refine mn_bd ⟨by have := (hr j hj).1; omega, (hr j hj).2⟩ ?_
  split
  · have := pl_bd (hr k hk).1 (hrk j hj).1 hD hE; omega
  · have := pl_bd h1.1 (hrk j hj).1 (by omega) hE; omega
def setR (f : Mx) (i : Nat) (g : Nat → Int) : Mx := fun a b => if a = i then g b else f a b
theorem p_tight_L3 {n k i : Nat} (hn : n ≤ 24) (hk : k < n) (hi : i < n) {f : Mx} (hf : Bdd n 1099511627776 f) : loop (m_bounds_tight_L3 std (n : Int) (k : Int) (i : Int)) (0, mat n f) = some (mat n (setR f i (stp k (f i) (f k)))) := by
  have h0 : mat n f = mat n (fun a b => if a = i ∧ b < 0 then stp k (f i) (f k) b else f a b) := mat_ext fun a b _ _ => by simp
  rw [h0]
  refine loop_up (n := n) (fun j => mat n (fun a b => if a = i ∧ b < j then stp k (f i) (f k) b else f a b)) (by omega) (fun j hj => ?_) ?_
  · rw [m_bounds_tight_L3_eq]
    obtain ⟨g, hg⟩ : ∃ g : Mx, g = (fun a b => if a = i ∧ b < j then stp k (f i) (f k) b else f a b) := ⟨_, rfl⟩
    rw [← hg]
    simp only [toN, mat_len, mat_row hi, mat_row hk, rw_len, rw_get hj, rw_get hk]
    obtain ⟨b1, b2⟩ := stp_bd hk (by omega) (by omega) (hf i · hi) (hf k · hk)
    have e1 : g i j = f i j := by rw [hg]; simp
    have e2 : g k j = f k j := by rw [hg]; simp
    have e3 : g i k = (if j ≤ k then f i k else mn (f i k) (pl (f i k) (f k k))) := by
      rw [hg]
      by_cases h : j ≤ k
      · simp [h]; omega
      · have : k < j := by omega
        simp only [this, and_self, if_true, h, if_false]
        unfold stp
        simp
    have e4 : -2199023255552 ≤ g i k ∧ g i k ≤ inf := by
      rw [e3]
      split
      · have := hf i k hi hk; omega
      · have := b1; omega
    have e5 := hf k j hk hj
    unfold inf at e4 e5
    refine bT (dT (by omega)) ?_
    refine gX (by omega) (gK hi (gX (by omega) (gK hj (gX (by omega) (gK hk (gX (by omega) (gK hk (gX (by omega) (gK hj (bB (p_plus (by omega) (by rw [e2]; omega)) (gI (by omega) ?_)))))))))))
    rw [e2, e3, e1]
    have e6 : mi (f i j) (pl (if j ≤ k then f i k else mn (f i k) (pl (f i k) (f k k))) (f k j)) = stp k (f i) (f k) j := rfl
    rw [e6, rw_set, mat_setrow]
    refine congrArg some (congrArg Sum.inl (Prod.ext (by simp) (mat_ext fun a b ha hb => ?_)))
    show (if a = i then (fun b => if b = j then stp k (f i) (f k) j else g i b) else g a) b = (if a = i ∧ b < j + 1 then stp k (f i) (f k) b else f a b)
    by_cases ea : a = i
    · subst ea
      rw [if_pos rfl, hg]
      by_cases eb : b = j
      · subst eb; simp
      · by_cases h : b < j
        · have : b < j + 1 := by omega
          simp [eb, h, this]
        · have : ¬ b < j + 1 := by omega
          simp [eb, h, this]
    · rw [if_neg ea, if_neg (by simp [ea]), hg]; simp [ea]
  · rw [m_bounds_tight_L3_eq]
    refine bF (dF (by omega)) ?_
    refine congrArg some (congrArg Sum.inr (mat_ext fun a b _ hb => ?_))
    simp only [hb, and_true, setR]
theorem stp_ext {k : Nat} {r rk r' rk' : Nat → Int} {b : Nat} (h1 : r b = r' b) (h2 : r k = r' k) (h3 : rk k = rk' k) (h4 : rk b = rk' b) : stp k r rk b = stp k r' rk' b := by
  unfold stp; rw [h1, h2, h3, h4]
theorem rnd_bd {n k : Nat} (hk : k < n) {f : Mx} {D : Int} (hD : 0 ≤ D) (hf : Bdd n D f) : Bdd n (8 * D) (rnd k f) := by
  intro i j hi hj
  have h1 := (stp_bd hk hD hD (hf k · hk) (hf k · hk)).2
  unfold rnd
  split
  · have := (stp_bd hk hD hD (hf i · hi) (hf k · hk)).2 j hj; omega
  · have := (stp_bd hk hD (by omega : 0 ≤ D + D + D) (hf i · hi) h1).2 j hj; omega
/-- some rows done -/
def rowsD (k : Nat) (f : Mx) (i : Nat) : Mx := fun a b => if a < i then rnd k f a b else f a b
theorem rowsD_bd {n k i : Nat} (hk : k < n) {f : Mx} {D : Int} (hD : 0 ≤ D) (hf : Bdd n D f) : Bdd n (8 * D) (rowsD k f i) := by
  intro a b ha hb
  unfold rowsD
  split
  · exact rnd_bd hk hD hf a b ha hb
  · have := hf a b ha hb; omega
theorem rowsD_step {k i : Nat} {f : Mx} (a b : Nat) : setR (rowsD k f i) i (stp k (rowsD k f i i) (rowsD k f i k)) a b = rowsD k f (i + 1) a b := by
  unfold setR
  by_cases e : a = i
  · subst e
    rw [if_pos rfl]
    have e1 : rowsD k f a a = f a := by funext b; simp [rowsD]
    have e3 : rowsD k f (a + 1) a b = rnd k f a b := by simp [rowsD]
    rw [e1, e3]
    by_cases h : a ≤ k
    · have e2 : rowsD k f a k = f k := by funext b; unfold rowsD; rw [if_neg (by omega)]
      rw [e2]; unfold rnd; rw [if_pos h]
    · have e2 : rowsD k f a k = stp k (f k) (f k) := by
        funext b; unfold rowsD; rw [if_pos (by omega)]
        unfold rnd; rw [if_pos (Nat.le_refl _)]
      rw [e2]; unfold rnd; rw [if_neg h]
  · rw [if_neg e]
    unfold rowsD
    by_cases h : a < i
    · rw [if_pos h, if_pos (by omega)]
    · rw [if_neg h, if_neg (by omega)]
theorem p_tight_L4 {n k : Nat} (hn : n ≤ 24) (hk : k < n) {f : Mx} (hf : Bdd n 137438953472 f) : loop (m_bounds_tight_L4 std (n : Int) (k : Int)) (0, mat n f) = some (mat n (rnd k f)) := by
  have h0 : mat n f = mat n (rowsD k f 0) := mat_ext fun a b _ _ => by simp [rowsD]
  rw [h0]
  refine loop_up (n := n) (fun i => mat n (rowsD k f i)) (by omega) (fun i hi => ?_) ?_
  · rw [m_bounds_tight_L4_eq]
    refine bT (dT (by omega)) (bB (p_tight_L3 hn hk hi (rowsD_bd hk (by omega) hf)) (gI (by omega) ?_))
    exact congrArg some (congrArg Sum.inl (Prod.ext (by simp) (mat_ext fun a b _ _ => rowsD_step a b)))
  · rw [m_bounds_tight_L4_eq]
    refine bF (dF (by omega)) ?_
    exact congrArg some (congrArg Sum.inr (mat_ext fun a b ha _ => by simp [rowsD, ha]))

/-! the check of each round -/
theorem p_Min {n : Nat} (hn : 1 ≤ n) (hn2 : n ≤ 24) (g : Nat → Int) : ∃ m, m_slices_Min std (rw' n g) = some m ∧ (∀ j, j < n → m ≤ g j) ∧ ∃ j, j < n ∧ m = g j := by
  have hi0 : ∃ i : Nat, ((g 0, (1 : Int)) : Int × Int).2 = (i : Int) ∧ 1 ≤ i ∧ i ≤ n ∧ (∀ j, j < i → ((g 0, (1 : Int)) : Int × Int).1 ≤ g j) ∧ ∃ j, j < i ∧ ((g 0, (1 : Int)) : Int × Int).1 = g j := by
    refine ⟨1, rfl, Nat.le_refl _, hn, fun j hj => ?_, 0, by omega, rfl⟩
    have : j = 0 := by omega
    subst this
    exact Int.le_refl _
  have key : ∃ e, loop (m_slices_Min_L1 std (rw' n g)) (g 0, 1) = some e ∧ ((∀ j, j < n → e ≤ g j) ∧ ∃ j, j < n ∧ e = g j) := by
    refine loop_is (fun y => ∃ i : Nat, y.2 = (i : Int) ∧ 1 ≤ i ∧ i ≤ n ∧ (∀ j, j < i → y.1 ≤ g j) ∧ ∃ j, j < i ∧ y.1 = g j) (fun y => n - y.2.toNat) (fun e => (∀ j, j < n → e ≤ g j) ∧ ∃ j, j < n ∧ e = g j) hi0 (by show n - _ < _; omega) ?_
    rintro ⟨m, i0⟩ ⟨i, hi, h1, h2, h3, j0, h4, h5⟩
    have hi : i0 = (i : Int) := hi
    have h3 : ∀ j, j < i → m ≤ g j := h3
    have h5 : m = g j0 := h5
    subst hi
    rw [m_slices_Min_L1_eq]
    simp only [toN, rw_len]
    by_cases hlt : i < n
    · refine ⟨_, bT (dT (by omega)) (gX (by omega) (gK hlt (gI (by omega) rfl))), ?_⟩
      show (∃ i' : Nat, _) ∧ _
      rw [rw_get hlt]
      refine ⟨⟨i + 1, by simp, by omega, by omega, fun j hj => ?_, ?_⟩, by show n - (_ : Int).toNat < n - _; omega⟩
      · by_cases e : j = i
        · subst e; show (if g j < m then g j else m) ≤ g j; split <;> omega
        · have := h3 j (by omega); show (if g i < m then g i else m) ≤ g j; split <;> omega
      · show ∃ j, j < i + 1 ∧ (if g i < m then g i else m) = g j
        by_cases hh : g i < m
        · exact ⟨i, by omega, if_pos hh⟩
        · exact ⟨j0, by omega, by rw [if_neg hh]; exact h5⟩
    · obtain rfl : i = n := by omega
      exact ⟨_, bF (dF (by omega)) rfl, h3, j0, h4, h5⟩
  obtain ⟨e, he, h⟩ := key
  refine ⟨e, ?_, h⟩
  rw [m_slices_Min_eq]
  simp only [rw_len]
  refine bF (dF (by omega)) (gX (by omega) (gK (by show (0:Int).toNat < n; omega) ?_))
  rw [show (0:Int).toNat = 0 from rfl, rw_get (by omega)]
  rw [he]; rfl
theorem p_low {n : Nat} (hn : 1 ≤ n) (hn2 : n ≤ 24) (f : Mx) : (m_slices_ContainsFunc_2 std (mat n f) = some true ∧ ∃ i j, i < n ∧ j < n ∧ f i j < -68719476736) ∨ (m_slices_ContainsFunc_2 std (mat n f) = some false ∧ ∀ i j, i < n → j < n → -68719476736 ≤ f i j) := by
  have hp : ∀ i, i < n → ∃ b, m_bounds_tight_1 std (rw' n (f i)) = some b ∧ (b = true ↔ ∃ j, j < n ∧ f i j < -68719476736) := by
    intro i _
    obtain ⟨m, h1, h2, j, h3, h4⟩ := p_Min hn hn2 (f i)
    refine ⟨decide (m < -68719476736), by rw [m_bounds_tight_1_eq, h1]; rfl, ?_⟩
    rw [decide_eq_true_iff]
    refine ⟨fun h => ⟨j, h3, by omega⟩, ?_⟩
    rintro ⟨j', h5, h6⟩
    have := h2 j' h5
    omega
  have hs := search (B := m_slices_IndexFunc_2_L1 std (mat n f)) (n := n) (fun i => (m_bounds_tight_1 std (rw' n (f i))).getD false) (fun i => Sum.inl (i : Int)) (.inr ()) (by omega) (fun i hi => by
      obtain ⟨b, h1, h2⟩ := hp i hi
      rw [m_slices_IndexFunc_2_L1_eq]
      simp only [toN, mat_len, mat_row hi]
      refine bT (dT (by omega)) (gX (by omega) (gK hi (bB h1 ?_)))
      rw [h1]
      cases b with
      | true => rfl
      | false => exact gI (by omega) rfl) (by
      rw [m_slices_IndexFunc_2_L1_eq]
      simp only [mat_len]
      exact bF (dF (by omega)) rfl)
  rcases hs with ⟨h1, h2⟩ | ⟨i, hi, h1, _, h2⟩
  · right
    refine ⟨by rw [m_slices_ContainsFunc_2_eq, m_slices_IndexFunc_2_eq, h2]; rfl, fun i j hi hj => ?_⟩
    obtain ⟨b, h3, h4⟩ := hp i hi
    have h5 := h1 i hi
    rw [h3] at h5
    have h5 : b = false := h5
    rcases Int.lt_or_le (f i j) (-68719476736) with g | g
    · rw [h4.2 ⟨j, hj, g⟩] at h5; cases h5
    · exact g
  · left
    obtain ⟨b, h3, h4⟩ := hp i hi
    rw [h3] at h1
    have h1 : b = true := h1
    obtain ⟨j, hj, g⟩ := h4.1 h1
    refine ⟨?_, i, j, hi, hj, g⟩
    rw [m_slices_ContainsFunc_2_eq, m_slices_IndexFunc_2_eq, h2]
    exact congrArg some (dT (by omega))

/-! the program's tight matrix -/
theorem p_diag {n : Nat} (hn2 : n ≤ 24) (f : Mx) : (loop (m_bounds_tight_L6 std (mat n f) (n : Int)) 0 = some (.inr ()) ∧ ∀ i, i < n → 0 ≤ f i i) ∨ (loop (m_bounds_tight_L6 std (mat n f) (n : Int)) 0 = some (.inl ()) ∧ ∃ i, i < n ∧ f i i < 0) := by
  rcases search (B := m_bounds_tight_L6 std (mat n f) (n : Int)) (n := n) (fun i => decide (f i i < 0)) (fun _ => Sum.inl ()) (.inr ()) (by omega) (fun i hi => by
      rw [m_bounds_tight_L6_eq]
      simp only [toN, mat_len, mat_row hi, rw_len, rw_get hi]
      refine bT (dT (by omega)) (gX (by omega) (gK hi (gX (by omega) (gK hi ?_))))
      cases decide (f i i < 0) with
      | true => rfl
      | false => exact gI (by omega) rfl) (by
      rw [m_bounds_tight_L6_eq]
      exact bF (dF (by omega)) rfl) with ⟨h1, h2⟩ | ⟨i, hi, h1, _, h2⟩
  · left
    refine ⟨h2, fun i hi => ?_⟩
    have := of_decide_eq_false (h1 i hi)
    omega
  · exact .inr ⟨h2, i, hi, of_decide_eq_true h1⟩
def mi0 (_n : Nat) : Nat → Mx := fun i a b => if a < i then (if a = b then 0 else inf) else 0
theorem p_rep (n : Nat) (hn : n ≤ 24) (x : Int) : m_rep_i1 std (n : Int) [x] = some (rw' n fun _ => x) := by
  rw [m_rep_i1_eq]
  unfold grd
  rw [dT (p := ([x].length = 1 ∧ 0 ≤ (n : Int) ∧ (n : Int) ≤ 1000000)) ⟨rfl, by omega, by omega⟩]
  show some _ = some _
  rw [toN]
  refine congrArg some (List.ext_getElem? fun b => ?_)
  simp only [rw', List.getElem?_map, List.getElem?_replicate]
  by_cases hb : b < n
  · simp [hb]
  · simp [hb]
/-- the first rows made -/
def part (n i : Nat) (f : Mx) : List (List Int) := (List.range n).map fun a => if a < i then rw' n (f a) else []
theorem part_len (n i : Nat) (f : Mx) : (part n i f).length = n := by simp [part]
theorem part_set {n i : Nat} (f : Mx) (hi : i < n) (g : Nat → Int) (hg : ∀ b, b < n → g b = f i b) : (part n i f).set i (rw' n g) = part n (i + 1) f := by
  refine List.ext_getElem? fun b => ?_
  rw [List.getElem?_set]
  simp only [part, List.length_map, List.length_range, List.getElem?_map]
  by_cases hb : b < n
  · simp only [List.getElem?_range hb, Option.map_some]
    by_cases e : i = b
    · subst e
      rw [if_pos rfl, if_pos hb, if_pos (by omega), rw_ext hg]
    · rw [if_neg e]
      by_cases h : b < i
      · rw [if_pos h, if_pos (by omega)]
      · rw [if_neg h, if_neg (by omega)]
  · have : (List.range n)[b]? = none := by simp; omega
    simp only [this, Option.map_none]
    split
    · omega
    · rfl
def idM : Mx := fun a b => if a = b then 0 else inf
theorem p_tight_L1 {n : Nat} (hn : n ≤ 24) : loop (m_bounds_tight_L1 std (n : Int)) (0, List.replicate n []) = some (mat n idM) := by
  have h0 : List.replicate n [] = part n 0 idM := by
    refine List.ext_getElem? fun b => ?_
    simp only [part, List.getElem?_map, List.getElem?_replicate]
    by_cases hb : b < n
    · simp [hb]
    · simp [hb]
  rw [h0]
  refine loop_up (n := n) (fun i => part n i idM) (by omega) (fun i hi => ?_) ?_
  · rw [m_bounds_tight_L1_eq]
    simp only [toN, List.length_replicate]
    refine bT (dT (by omega)) (bB (p_rep n hn _) ?_)
    obtain ⟨m, hm⟩ : ∃ m, m = (part n i idM).set i (rw' n fun _ => 4398046511104) := ⟨_, rfl⟩
    have hl : m.length = n := by rw [hm, List.length_set, part_len]
    have hr : m.getD i [] = rw' n fun _ => 4398046511104 := by
      rw [hm, List.getD_eq_getElem?_getD, List.getElem?_set]
      simp [part_len, hi]
    rw [← hm, hl, hr]
    refine gX (by rw [part_len]; omega) (gK (by rw [part_len]; omega) (gX (by omega) (gK hi (gX (by rw [rw_len]; omega) (gK (by rw [rw_len]; omega) (gI (by omega) ?_))))))
    rw [rw_set, hm, List.set_set, part_set idM hi]
    · rfl
    · intro b _
      unfold idM inf
      by_cases e : b = i
      · subst e; simp
      · rw [if_neg e, if_neg (fun h => e h.symm)]
  · rw [m_bounds_tight_L1_eq]
    refine bF (dF (by simp)) ?_
    refine congrArg some (congrArg Sum.inr ?_)
    unfold part mat
    exact List.map_congr_left fun a ha => by rw [if_pos (List.mem_range.1 ha)]
theorem nb_get (l : List Bd) (k : Nat) : l.getD k (0, 0, 0) = nb l k := rfl
def foldT (l : List Bd) (k : Nat) : Mx := (l.take k).foldl ed idM
theorem foldT_step {l : List Bd} {k : Nat} (hk : k < l.length) : foldT l (k + 1) = ed (foldT l k) (nb l k) := by
  unfold foldT
  rw [List.take_add_one, List.foldl_append, List.getElem?_eq_getElem hk]
  unfold nb
  rw [List.getD_eq_getElem?_getD, List.getElem?_eq_getElem hk]
  rfl
theorem foldT_all (l : List Bd) : foldT l l.length = M0 l := by
  unfold foldT
  rw [List.take_length]; rfl
theorem ed_set {n : Nat} {f : Mx} {e : Bd} (h1 : e.1.toNat < n) (h2 : e.2.1.toNat < n) : (mat n f).set e.1.toNat (((mat n f).getD e.1.toNat []).set e.2.1.toNat (mi (((mat n f).getD e.1.toNat []).getD e.2.1.toNat 0) e.2.2)) = mat n (ed f e) := by
  rw [mat_set h1, mat_row h1, rw_get h2]
  refine mat_ext fun a b _ _ => ?_
  unfold ed
  split
  · rename_i h; rw [h.1, h.2]; rfl
  · rfl
theorem p_tight_L2 {n : Nat} {l : List Bd} (hl : LOk n l) (hlen : l.length ≤ 1000) : loop (m_bounds_tight_L2 std l) (0, mat n idM) = some (mat n (M0 l)) := by
  rw [← foldT_all]
  refine loop_up (n := l.length) (fun k => mat n (foldT l k)) (by omega) (fun k hk => ?_) ?_
  · rw [m_bounds_tight_L2_eq]
    have he := hl _ (nb_mem hk)
    have i0 := he.i0; have i1 := he.i1; have j0 := he.j0; have j1 := he.j1
    simp only [toN, nb_get]
    refine bT (dT (by omega)) (gX (by omega) (gK hk (gX (by rw [mat_len]; omega) (gK (by rw [mat_len]; omega) ?_))))
    have hr : ((mat n (foldT l k)).getD (nb l k).1.toNat []).length = n := by rw [mat_row (by omega), rw_len]
    refine gX (by rw [hr]; omega) (gK (by rw [hr]; omega) (gI (by omega) ?_))
    rw [ed_set (by omega) (by omega), foldT_step hk]
    rfl
  · rw [m_bounds_tight_L2_eq]
    exact bF (dF (by omega)) rfl
theorem low_not {n k : Nat} {l : List Bd} (hl : LOk n l) (hn : n ≤ 24) (hk : k ≤ n) {i j : Nat} (hi : i < n) (hj : j < n) (h : Mk (M0 l) k i j < -68719476736) : ¬ Cons n (M0 l) := by
  intro hc
  have hI := inv_cons (M0_ini hl) hn hc hk
  have := hI.bd hk hn hi hj (by unfold inf; omega)
  omega
theorem Mk_top {n : Nat} {l : List Bd} (hl : LOk n l) (k : Nat) {i j : Nat} (hi : i < n) (hj : j < n) : Mk (M0 l) k i j ≤ inf := by
  have := Mk_le (M0 l) 0 k i j
  rw [Nat.zero_add] at this
  exact Int.le_trans this (M0_top hl hi hj)
theorem p_tight_L5 {n : Nat} {l : List Bd} (hl : LOk n l) (hn1 : 1 ≤ n) (hn : n ≤ 24) : ∃ e, loop (m_bounds_tight_L5 std (n : Int)) (0, mat n (M0 l)) = some e ∧ ((e = .inl () ∧ ¬ Cons n (M0 l)) ∨ e = .inr (mat n (Ti n l))) := by
  refine loop_is (fun y => ∃ k : Nat, y = ((k : Int), mat n (Mk (M0 l) k)) ∧ k ≤ n ∧ ∀ i j, i < n → j < n → -68719476736 ≤ Mk (M0 l) k i j) (fun y => n - y.1.toNat) _ ⟨0, rfl, Nat.zero_le _, fun i j hi hj => ?_⟩ (by show n - _ < _; omega) ?_
  · by_cases hf : M0 l i j = inf
    · show _ ≤ M0 l i j; rw [hf]; unfold inf; omega
    · have := (M0_ini hl).fin i j hi hj hf
      show _ ≤ M0 l i j
      unfold C at this; omega
  · rintro _ ⟨k, rfl, hk, hb⟩
    rw [m_bounds_tight_L5_eq]
    by_cases hlt : k < n
    · have h4 := p_tight_L4 (n := n) (k := k) hn hlt (f := Mk (M0 l) k) (fun i j hi hj => ⟨by have := hb i j hi hj; omega, Mk_top hl k hi hj⟩)
      rcases p_low hn1 hn (Mk (M0 l) (k + 1)) with ⟨h5, i, j, hi, hj, h6⟩ | ⟨h5, h6⟩
      · exact ⟨_, bT (dT (by omega)) (bB h4 (bB h5 rfl)), .inl ⟨rfl, low_not hl hn (by omega) hi hj h6⟩⟩
      · refine ⟨_, bT (dT (by omega)) (bB h4 (bB h5 (gI (by omega) rfl))), ⟨k + 1, by simp; rfl, by omega, h6⟩, ?_⟩
        show n - (_ : Int).toNat < n - _
        omega
    · obtain rfl : k = n := by omega
      exact ⟨_, bF (dF (by omega)) rfl, .inr rfl⟩
theorem p_tight {n : Nat} {l : List Bd} (hl : LOk n l) (hlen : l.length ≤ 1000) (hn1 : 1 ≤ n) (hn : n ≤ 24) :
    (Cons n (M0 l) ∧ m_bounds_tight std (n : Int) l = some (mat n (Ti n l), true)) ∨ (¬ Cons n (M0 l) ∧ m_bounds_tight std (n : Int) l = some ([], false)) := by
  rw [m_bounds_tight_eq]
  simp only [toN]
  have key : ∀ r, (Option.bind (loop (m_bounds_tight_L5 std (n : Int)) (0, mat n (M0 l))) fun e => match e with
      | .inl _ => (some (([] : List (List Int)), false))
      | .inr (m20) => Option.bind (loop (m_bounds_tight_L6 std m20 (n : Int)) 0) fun e => match e with
        | .inl _ => (some (([] : List (List Int)), false))
        | .inr (_) => (some (m20, true))) = r → (grd (okRng (n : Int) n) <| grd (okRoom n) <| Option.bind (loop (m_bounds_tight_L1 std (n : Int)) (0, List.replicate n [])) fun m2 => Option.bind (loop (m_bounds_tight_L2 std l) (0, m2)) fun m4 => Option.bind (loop (m_bounds_tight_L5 std (n : Int)) (0, m4)) fun e => match e with
      | .inl _ => (some (([] : List (List Int)), false))
      | .inr (m20) => Option.bind (loop (m_bounds_tight_L6 std m20 (n : Int)) 0) fun e => match e with
        | .inl _ => (some (([] : List (List Int)), false))
        | .inr (_) => (some (m20, true))) = r := fun r h => gG (by omega) (gR (by omega) (bB (p_tight_L1 hn) (bB (p_tight_L2 hl hlen) h)))
  obtain ⟨e, h1, h2⟩ := p_tight_L5 hl hn1 hn
  rcases h2 with ⟨rfl, h2⟩ | rfl
  · exact .inr ⟨h2, key _ (bB h1 rfl)⟩
  · rcases p_diag hn (Ti n l) with ⟨h3, h4⟩ | ⟨h3, i, hi, h4⟩
    · exact .inl ⟨h4, key _ (bB h1 (bB h3 rfl))⟩
    · exact .inr ⟨fun hc => by have : 0 ≤ Ti n l i i := hc i hi; omega, key _ (bB h1 (bB h3 rfl))⟩
end Go.Proofs.Ytegmjohhgedakaa
