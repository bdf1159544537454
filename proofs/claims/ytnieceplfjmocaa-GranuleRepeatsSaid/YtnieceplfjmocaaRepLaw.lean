/-
  Plain law: a list repeated is the calendar that it repeats; calendars with the same spans are the same.
-/
import Derived.Test.YtnieceplfjmocaaPer
import Derived.Test.YtnieceplfjmocaaEqual
import Derived.Test.YtnieceplfjmocaaOfAny
namespace Go.Proofs.Ytnieceplfjmocaa

/-- a row that steps by j repeats -/
def Step (f g : Int → Int) (j : Nat) : Prop := ∃ d : Int, ∀ k : Int, f (k + j) = f k + d ∧ g (k + j) = g k + d
theorem Step.mul {f g : Int → Int} {j : Nat} (h : Step f g j) (a : Nat) : Step f g (j * a) := by
  induction a with
  | zero => exact ⟨0, fun k => by simp⟩
  | succ a ih =>
    obtain ⟨d, hd⟩ := h
    obtain ⟨c, hc⟩ := ih
    refine ⟨c + d, fun k => ?_⟩
    have h1 := hd (k + ((j * a : Nat) : Int))
    have h2 := hc k
    have e : k + ((j * (a + 1) : Nat) : Int) = k + ((j * a : Nat) : Int) + j := by rw [Nat.mul_succ]; omega
    rw [e, h1.1, h1.2, h2.1, h2.2]; omega
theorem Step.sub {f g : Int → Int} {a b : Nat} (h : Step f g a) (h' : Step f g b) (hab : b ≤ a) : Step f g (a - b) := by
  obtain ⟨d, hd⟩ := h
  obtain ⟨c, hc⟩ := h'
  refine ⟨d - c, fun k => ?_⟩
  have h1 := hd k
  have h2 := hc (k + ((a - b : Nat) : Int))
  have e : k + ((a - b : Nat) : Int) + b = k + a := by omega
  rw [e] at h2
  omega
theorem Step.gcd {f g : Int → Int} : ∀ a b : Nat, Step f g a → Step f g b → Step f g (Nat.gcd a b) := by
  intro a b
  induction a, b using Nat.gcd.induction with
  | H0 n => intro _ h; rw [Nat.gcd_zero_left]; exact h
  | H1 m n hm ih =>
    intro h1 h2
    rw [Nat.gcd_rec]
    refine ih ?_ h1
    have h3 := h2.sub (h1.mul (n / m)) (by have := Nat.mod_add_div n m; omega)
    have e : n - m * (n / m) = n % m := by have := Nat.mod_add_div n m; omega
    rw [← e]; exact h3

theorem step_self (o p : Int) {l : List Sp} (h : 0 < l.length) : Step (atF o p l) (atT o p l) l.length := ⟨p, fun k => by
  have := at_add o p h k 1
  rw [Int.mul_one, Int.mul_one] at this
  exact this⟩
/-- the least step of a row is its list's length -/
theorem step_least {o p : Int} {l : List Sp} (hv : Vd o p l) {j : Nat} (h1 : 1 ≤ j) (hs : Step (atF o p l) (atT o p l) j) : l.length ∣ j := by
  have hg := Step.gcd _ _ hs (step_self o p hv.n0)
  have hd1 : Nat.gcd j l.length ∣ l.length := Nat.gcd_dvd_right _ _
  have hd2 : Nat.gcd j l.length ∣ j := Nat.gcd_dvd_left _ _
  have hpos : 1 ≤ Nat.gcd j l.length := Nat.gcd_pos_of_pos_left _ h1
  have hle : Nat.gcd j l.length ≤ l.length := Nat.le_of_dvd hv.n0 hd1
  generalize Nat.gcd j l.length = g at *
  obtain ⟨q, hq⟩ := hd1
  obtain ⟨d, hd⟩ := hg
  have hq1 : 1 ≤ q := by
    rcases Nat.eq_zero_or_pos q with h | h
    · rw [h] at hq; have := hv.n0; omega
    · exact h
  have hr := rep_at (o := o) (p := p) (d := d) (l := l) (m := g) q hpos (by rw [hq, Nat.mul_comm]) hq1 hd
  obtain ⟨_, _, _, m4⟩ := leastN_spec (p := p) hv.n0
  rw [hv.least] at m4
  rcases Nat.lt_or_ge g l.length with h | h
  · rw [m4 g h hpos] at hr; cases hr
  · have : g = l.length := by omega
    rw [← this]; exact hd2

/-- the first K granules of the row that begins at 0 -/
def repK (p : Int) (l : List Sp) (K : Nat) : List Sp := (List.range K).map fun (i : Nat) => (atF 0 p l i, atT 0 p l i)
theorem repK_len (p : Int) (l : List Sp) (K : Nat) : (repK p l K).length = K := by simp [repK]
theorem repK_fr (p : Int) (l : List Sp) {K k : Nat} (h : k < K) : fr (repK p l K) k = atF 0 p l k := by
  simp [fr, repK, List.getD_eq_getElem?_getD, List.getElem?_map, List.getElem?_range h]
theorem repK_tt (p : Int) (l : List Sp) {K k : Nat} (h : k < K) : tt (repK p l K) k = atT 0 p l k := by
  simp [tt, repK, List.getD_eq_getElem?_getD, List.getElem?_map, List.getElem?_range h]
theorem repK_succ (p : Int) (l : List Sp) (K : Nat) : repK p l (K + 1) = repK p l K ++ [(atF 0 p l K, atT 0 p l K)] := by
  simp [repK, List.range_succ]
/-- granule j of round i -/
theorem repK_next (p : Int) {l : List Sp} {i j : Nat} (hj : j < l.length) : repK p l (i * l.length + j + 1) = repK p l (i * l.length + j) ++ [(fr l j + i * p, tt l j + i * p)] := by
  rw [repK_succ]
  obtain ⟨_, _, e1, e2⟩ := at_mk 0 p (i : Int) hj
  have e : ((i * l.length + j : Nat) : Int) = (l.length : Int) * i + j := by rw [Int.natCast_add, Int.natCast_mul, Int.mul_comm]
  rw [e, e1, e2, Int.mul_comm]
  simp

theorem repK_at (o p : Int) {l : List Sp} (h0 : 0 < l.length) {m : Nat} (hm : 1 ≤ m) (k : Int) : atF o (m * p) (repK p l (m * l.length)) k = atF o p l k ∧ atT o (m * p) (repK p l (m * l.length)) k = atT o p l k := by
  have hpos : 0 < m * l.length := Nat.mul_pos hm h0
  have hlen := repK_len p l (m * l.length)
  obtain ⟨r, hr, hk⟩ := at_parts k (show 0 < (repK p l (m * l.length)).length by omega)
  generalize k / ((repK p l (m * l.length)).length : Int) = s at hk
  obtain ⟨_, _, e1, e2⟩ := at_mk o (m * p) s hr
  rw [hlen] at hr hk e1 e2
  rw [hk, e1, e2, repK_fr p l hr, repK_tt p l hr]
  have e : ((m * l.length : Nat) : Int) * s + (r : Int) = r + (l.length : Int) * (m * s) := by rw [Int.natCast_mul]; grind
  rw [e, (at_add o p h0 r _).1, (at_add o p h0 r _).2]
  have e3 : ∀ x : Int, atF o p l x = atF 0 p l x + o := fun x => by simp only [atF]; omega
  have e4 : ∀ x : Int, atT o p l x = atT 0 p l x + o := fun x => by simp only [atT]; omega
  rw [e3, e4]
  have e5 : (m : Int) * p * s = p * (m * s) := by grind
  rw [e5]; omega

theorem rep_of {o p : Int} {l : List Sp} (hv : validB o p l = true) {m : Nat} (hm : 1 ≤ m) (hn : m * l.length ≤ 5000) (hp : (m : Int) * p ≤ 12622780800) :
    ofRO o (m * p) (repK p l (m * l.length)) = o ∧ ofRP o (m * p) (repK p l (m * l.length)) = p ∧ ofRL o (m * p) (repK p l (m * l.length)) = l ∧ ofErr o (m * p) (repK p l (m * l.length)) = 0 := by
  have hd := Vd.of hv
  have h0 := hd.n0
  have hz : Vd 0 p l := { hd with o1 := by omega, o2 := by omega }
  have hK : 0 < m * l.length := Nat.mul_pos hm h0
  have hlen := repK_len p l (m * l.length)
  have hp1 := hd.p1
  have hmp : p ≤ m * p := by
    have : 1 * p ≤ (m : Int) * p := Int.mul_le_mul_of_nonneg_right (by omega) (by omega)
    omega
  have hf0 : atF 0 p l 0 = 0 := by
    have := (at_mk 0 p 0 h0).2.2.1
    rw [hd.f0] at this
    simpa using this
  have hfK : atF 0 p l ((m * l.length : Nat) : Int) = m * p := by
    have := (at_add 0 p h0 0 m).1
    have e : (0 : Int) + (l.length : Int) * m = ((m * l.length : Nat) : Int) := by rw [Int.natCast_mul]; grind
    rw [e, hf0] at this
    rw [this, Int.mul_comm]; omega
  have hlow : ∀ k : Nat, 0 ≤ atF 0 p l k := fun k => by
    have := at_mono hz 0 k
    rw [hf0] at this
    simpa using this
  have hhigh : ∀ k : Nat, k < m * l.length → atT 0 p l k ≤ m * p := fun k hk => by
    have h1 := (at_lt hz k).2
    have h2 := at_mono hz (k + 1) (m * l.length - (k + 1))
    have e : (k : Int) + 1 + ((m * l.length - (k + 1) : Nat) : Int) = ((m * l.length : Nat) : Int) := by omega
    rw [e, hfK] at h2
    omega
  have hfr0 : fr (repK p l (m * l.length)) 0 = 0 := by rw [repK_fr p l hK]; exact hf0
  have hshift : shiftL (repK p l (m * l.length)) 0 = repK p l (m * l.length) := by simp [shiftL]
  have hleast : leastN (m * p) (repK p l (m * l.length)) = l.length := by
    refine leastN_at h0 (by rw [hlen]; exact Nat.le_mul_of_pos_left _ hm) ?_ (fun j hj hj1 => ?_)
    · refine rep_at (o := o) (d := p) m h0 hlen hm (fun k => ?_)
      rw [(repK_at o p h0 hm _).1, (repK_at o p h0 hm _).2, (repK_at o p h0 hm _).1, (repK_at o p h0 hm _).2]
      have := at_add o p h0 k 1
      rw [Int.mul_one, Int.mul_one] at this
      exact this
    · cases hr : repM (m * p) (repK p l (m * l.length)) j with
      | false => rfl
      | true =>
        exfalso
        have hjl : j ≤ (repK p l (m * l.length)).length := by
          rw [hlen]; exact Nat.le_trans (by omega) (Nat.le_mul_of_pos_left _ hm)
        obtain ⟨q, d, q1, q2, q3, q4⟩ := at_rep o hr hj1 hjl
        have hs : Step (atF o p l) (atT o p l) j := ⟨d, fun k => by
          have := q4 k
          rw [(repK_at o p h0 hm _).1, (repK_at o p h0 hm _).2, (repK_at o p h0 hm _).1, (repK_at o p h0 hm _).2] at this
          exact this⟩
        have := Nat.le_of_dvd hj1 (step_least hd hj1 hs)
        omega
  have hofM : ofM (m * p) (repK p l (m * l.length)) = l.length := by rw [ofM, hfr0, hshift, hleast]
  have hok : OfOkB o (m * p) (repK p l (m * l.length)) := by
    refine ⟨by omega, hp, ?_, ?_, by omega, lineB_iff.2 (by have := hd.o1; have := hd.o2; omega), ?_⟩
    · rw [ascB_iff, hlen]
      refine ⟨hK, fun j hj => ?_⟩
      simp only [ascAt, Bool.and_eq_true, Bool.or_eq_true, decide_eq_true_eq, beq_iff_eq]
      rw [repK_fr p l hj, repK_tt p l hj]
      have h1 := hlow j
      have h2 := at_lt hz j
      have h3 := hhigh j hj
      refine ⟨ivB_iff.2 (by omega), ?_⟩
      rcases Nat.eq_zero_or_pos j with hj0 | hj0
      · exact .inl hj0
      · right
        rw [repK_tt p l (by omega)]
        have h4 := (at_lt hz ((j - 1 : Nat) : Int)).2
        have e : ((j - 1 : Nat) : Int) + 1 = j := by omega
        rw [e] at h4
        exact h4
    · rw [hlen, hfr0, repK_tt p l (by omega)]
      have := hhigh (m * l.length - 1) (by omega)
      omega
    · rw [hfr0]; exact halfB_iff.2 (by have := hd.o1; have := hd.o2; omega)
  have herr := ofErr_zero.2 hok
  refine ⟨?_, ?_, ?_, herr⟩
  · rw [ofRO, if_pos herr, hfr0]; omega
  · rw [ofRP, if_pos herr, ofP, hofM, hlen]
    have e : (((m * l.length : Nat) : Int) / (l.length : Int)) = m := by rw [Int.natCast_mul]; exact Int.mul_ediv_cancel _ (by omega)
    rw [e]; exact Int.mul_ediv_cancel_left _ (by omega)
  · rw [ofRL, if_pos herr, ofL, hofM, hfr0, hshift]
    refine list_ext (by rw [List.length_take, hlen]; exact Nat.min_eq_left (Nat.le_mul_of_pos_left _ hm)) (fun k hk => ?_)
    have hk' : k < l.length := by rw [List.length_take] at hk; omega
    have hk2 : k < m * l.length := Nat.lt_of_lt_of_le hk' (Nat.le_mul_of_pos_left _ hm)
    rw [fr_take hk', tt_take hk', repK_fr p l hk2, repK_tt p l hk2]
    obtain ⟨_, _, e1, e2⟩ := at_mk 0 p 0 hk'
    have e : (l.length : Int) * 0 + (k : Int) = k := by omega
    rw [e] at e1 e2
    rw [e1, e2]; omega

theorem same_cal {o p o' p' : Int} {l l' : List Sp} (hv : Vd o p l) (hv' : Vd o' p' l') (h : ∀ k : Nat, k ≤ l.length * l'.length → atF o p l k = atF o' p' l' k ∧ atT o p l k = atT o' p' l' k) : o = o' ∧ p = p' ∧ l = l' := by
  have h0 := hv.n0
  have h0' := hv'.n0
  have hz : ∀ {o p : Int} {l : List Sp}, Vd o p l → atF o p l 0 = o := fun {o p l} hv => by
    have := (at_mk o p 0 hv.n0).2.2.1
    rw [hv.f0] at this
    simpa using this
  have ho : o = o' := by
    have := (h 0 (by omega)).1
    rw [show ((0 : Nat) : Int) = 0 from rfl, hz hv, hz hv'] at this
    exact this
  have e1 := (at_add o p h0 0 l'.length).1
  have e2 := (at_add o' p' h0' 0 l.length).1
  have hNM := (h _ (Nat.le_refl _)).1
  have c1 : (0 : Int) + (l.length : Int) * (l'.length : Int) = ((l.length * l'.length : Nat) : Int) := by rw [Int.natCast_mul]; omega
  have c2 : (0 : Int) + (l'.length : Int) * (l.length : Int) = ((l.length * l'.length : Nat) : Int) := by rw [Int.natCast_mul]; grind
  rw [c1] at e1
  rw [c2] at e2
  rw [hz hv] at e1
  rw [hz hv'] at e2
  have hpp : p * (l'.length : Int) = p' * (l.length : Int) := by omega
  have hall : ∀ k : Int, atF o p l k = atF o' p' l' k ∧ atT o p l k = atT o' p' l' k := fun k => by
    have hW : 0 < l.length * l'.length := Nat.mul_pos h0 h0'
    obtain ⟨r, hr, hk⟩ : ∃ r : Nat, r < l.length * l'.length ∧ k = ((l.length * l'.length : Nat) : Int) * (k / ((l.length * l'.length : Nat) : Int)) + r := by
      have hm := div_bd (a := k) (b := ((l.length * l'.length : Nat) : Int)) (by omega)
      have := Int.emod_add_mul_ediv k ((l.length * l'.length : Nat) : Int)
      exact ⟨(k % ((l.length * l'.length : Nat) : Int)).toNat, by omega, by omega⟩
    generalize k / ((l.length * l'.length : Nat) : Int) = s at hk
    have a1 := at_add o p h0 r (l'.length * s)
    have a2 := at_add o' p' h0' r (l.length * s)
    have d1 : (r : Int) + (l.length : Int) * (l'.length * s) = k := by rw [hk, Int.natCast_mul]; grind
    have d2 : (r : Int) + (l'.length : Int) * (l.length * s) = k := by rw [hk, Int.natCast_mul]; grind
    have d3 : p * ((l'.length : Int) * s) = p' * ((l.length : Int) * s) := by rw [← Int.mul_assoc, ← Int.mul_assoc, hpp]
    rw [d1] at a1
    rw [d2] at a2
    have := h r (by omega)
    rw [a1.1, a1.2, a2.1, a2.2, this.1, this.2, d3]
    exact ⟨rfl, rfl⟩
  have hs : Step (atF o p l) (atT o p l) l'.length := by
    obtain ⟨d, hd⟩ := step_self o' p' h0'
    exact ⟨d, fun k => by rw [(hall _).1, (hall _).2, (hall _).1, (hall _).2]; exact hd k⟩
  have hs' : Step (atF o' p' l') (atT o' p' l') l.length := by
    obtain ⟨d, hd⟩ := step_self o p h0
    exact ⟨d, fun k => by rw [← (hall _).1, ← (hall _).2, ← (hall _).1, ← (hall _).2]; exact hd k⟩
  have hl : l.length = l'.length := Nat.dvd_antisymm (step_least hv h0' hs) (step_least hv' h0 hs')
  have hp : p = p' := by
    rw [hl] at hpp
    exact Int.eq_of_mul_eq_mul_right (by omega) hpp
  refine ⟨ho, hp, list_ext hl (fun k hk => ?_)⟩
  obtain ⟨_, _, b1, b2⟩ := at_mk o p 0 hk
  obtain ⟨_, _, b3, b4⟩ := at_mk o' p' 0 (show k < l'.length by omega)
  have e : (l.length : Int) * 0 + (k : Int) = k := by omega
  have e' : (l'.length : Int) * 0 + (k : Int) = k := by omega
  rw [e] at b1 b2
  rw [e'] at b3 b4
  have := hall k
  omega
end Go.Proofs.Ytnieceplfjmocaa
