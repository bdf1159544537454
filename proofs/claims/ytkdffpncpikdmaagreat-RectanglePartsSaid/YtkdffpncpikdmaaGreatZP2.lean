/-
  Rectangles: the reference's area; RectangleParts.
-/
import Derived.Test.YtkdffpncpikdmaaGreatZP
namespace Go.Proofs.YtkdffpncpikdmaaGreat
open Go.RowKit

def rprod (r : Rc) : Int := (r.2.1 - r.1) * (r.2.2.2 - r.2.2.1)
def sumP : List Rc → Int
  | [] => 0
  | r :: l => rprod r + sumP l
theorem sumP_app (a b : List Rc) : sumP (a ++ b) = sumP a + sumP b := by
  induction a with
  | nil => simp [sumP]
  | cons r a ih => show rprod r + sumP (a ++ b) = rprod r + sumP a + sumP b; rw [ih]; omega
theorem sumP_snoc (a : List Rc) (r : Rc) : sumP (a ++ [r]) = sumP a + rprod r := by
  rw [sumP_app]; show sumP a + (rprod r + 0) = _; omega
def segA : List Seg → Int
  | [] => 0
  | s :: g => (s.2.1 - s.1) * meas s.2.2 + segA g
theorem sumP_rcs (s : Seg) : sumP (rcs s) = (s.2.1 - s.1) * meas s.2.2 := by
  obtain ⟨a, b, l⟩ := s
  induction l with
  | nil => simp [rcs, sumP, meas]
  | cons v l ih =>
    show (v.2 - v.1) * (b - a) + sumP (rcs (a, b, l)) = (b - a) * ((v.2 - v.1) + meas l)
    rw [ih, Int.mul_add, Int.mul_comm (v.2 - v.1)]
theorem sumP_flat (g : List Seg) : sumP (flatG g) = segA g := by
  induction g with
  | nil => rfl
  | cons s g ih => rw [flatG_cons, sumP_app, sumP_rcs, ih]; rfl
def fsum : List Seg → Int → Int
  | [], _ => 0
  | s :: g, t => ind s.1 s.2.1 (meas s.2.2) t + fsum g t
theorem fsum_sum : ∀ {g : List Seg}, (∀ s ∈ g, -62135596800 ≤ s.1 ∧ s.1 ≤ s.2.1 ∧ s.2.1 ≤ 253402300800) → sumF (fsum g) 315537897600 = segA g := by
  intro g
  induction g with
  | nil => intro _; exact sumF_zero _
  | cons s g ih =>
    intro h
    have h1 := h s (by simp)
    have e : sumF (fsum (s :: g)) 315537897600 = sumF (fun t => ind s.1 s.2.1 (meas s.2.2) t + fsum g t) 315537897600 := rfl
    rw [e, sumF_add, sumF_ind' h1.1 h1.2.1 h1.2.2, ih fun q hq => h q (by simp [hq])]; rfl
theorem fsum_set : ∀ {g : List Seg}, CanG g → ∀ t, fsum g t = meas (setAt g t) := by
  intro g
  induction g with
  | nil => intro _ t; rfl
  | cons s g ih =>
    intro h t
    have e : setAt (s :: g) t = if s.1 ≤ t ∧ t < s.2.1 then s.2.2 else setAt g t := rfl
    show ind s.1 s.2.1 (meas s.2.2) t + fsum g t = _
    rw [e, ih h.tail]
    unfold ind
    by_cases hc : s.1 ≤ t ∧ t < s.2.1
    · rw [if_pos hc, if_pos hc, setAt_none (h.after' hc.2)]
      show meas s.2.2 + 0 = _
      omega
    · rw [if_neg hc, if_neg hc]; omega
def pgF (es : List Int) (l : List Rc) : Nat → Int → Int
  | 0, _ => 0
  | n + 1, t => pgF es l n t + ind (eAt es n) (eAt es (n + 1)) (meas (tS l (eAt es n))) t
theorem pgF_sum {es : List Int} (hes : es.Pairwise (· < ·)) (hb : ∀ i, i < es.length → -62135596800 ≤ eAt es i ∧ eAt es i ≤ 253402300800) {l : List Rc} : ∀ n, n ≤ es.length - 1 → sumF (pgF es l n) 315537897600 = arP es l n := by
  intro n
  induction n with
  | zero => intro _; exact sumF_zero _
  | succ n ih =>
    intro hn
    have h1 := hb n (by omega)
    have h2 := hb (n + 1) (by omega)
    have h3 := eAt_lt hes n (by omega)
    have e : sumF (pgF es l (n + 1)) 315537897600 = sumF (fun t => pgF es l n t + ind (eAt es n) (eAt es (n + 1)) (meas (tS l (eAt es n))) t) 315537897600 := rfl
    rw [e, sumF_add, ih (by omega), sumF_ind' h1.1 (by omega) h2.2]; rfl
theorem pgF_at {es : List Int} (hes : es.Pairwise (· < ·)) {l : List Rc} : ∀ n, n ≤ es.length - 1 → (∀ i, i < n → ∀ t, eAt es i ≤ t → t < eAt es (i + 1) → pgF es l n t = meas (tS l (eAt es i))) ∧ ∀ t, t < eAt es 0 ∨ eAt es n ≤ t → pgF es l n t = 0 := by
  intro n
  induction n with
  | zero => intro _; exact ⟨fun i h => (by omega), fun t _ => rfl⟩
  | succ n ih =>
    intro hn
    obtain ⟨h1, h2⟩ := ih (by omega)
    have hlt := eAt_lt hes
    have h3 := hlt n (by omega)
    have h4 := asc_le hlt 0 n (by omega) (by omega)
    refine ⟨fun i hi t ht1 ht2 => ?_, fun t ht => ?_⟩
    · show pgF es l n t + ind _ _ _ t = _
      unfold ind
      rcases Nat.lt_or_ge i n with h | h
      · have := asc_le hlt (i + 1) n (by omega) (by omega)
        rw [if_neg (by omega), h1 i h t ht1 ht2]; omega
      · have : i = n := by omega
        subst this
        rw [if_pos ⟨ht1, ht2⟩, h2 t (.inr ht1)]; omega
    · show pgF es l n t + ind _ _ _ t = 0
      unfold ind
      rw [if_neg (by omega), h2 t (by omega)]; rfl
theorem tS_eq {l : List Rc} (h : lvB l = true) {t u : Int} (he : ∀ x, inL l x t = inL l x u) : tS l t = tS l u :=
  can_unique (tS_time h t).can (tS_time h u).can fun x => by rw [← memB_iff, ← memB_iff, tS_memB h, tS_memB h, he]
theorem tS_none {l : List Rc} (h : lvB l = true) {t : Int} (he : ∀ x, inL l x t = false) : tS l t = [] :=
  can_unique (tS_time h t).can Can.nil fun x => by
    rw [← memB_iff, ← memB_iff, tS_memB h, he]; rfl
theorem area_same {l : List Rc} (h : lvB l = true) (hl : l.length ≤ 500) : sumP (flatG (segC rOr l [])) = arP (endS l) l ((endS l).length - 1) := by
  obtain ⟨k1, k2, _⟩ := endS_ok l
  have ht := endS_time h
  obtain ⟨g1, g2⟩ := can_pairs h hl
  have hbs : ∀ i, i < (endS l).length → -62135596800 ≤ eAt (endS l) i ∧ eAt (endS l) i ≤ 253402300800 := fun i hi => ht _ (eAt_mem.2 ⟨i, hi, rfl⟩)
  have hq : ∀ x t, inL (flatG (segC rOr l [])) x t = inL l x t := fun x t => by rw [inL_flat g1, g2]
  have hsb : ∀ s ∈ segC rOr l [], -62135596800 ≤ s.1 ∧ s.1 ≤ s.2.1 ∧ s.2.1 ≤ 253402300800 := fun s hs => by
    have h1 := g1.ok s hs
    have hv := flatG_valid g1 fun x t hx => inL_bd h (by rw [← hq]; exact hx)
    have h2 := lvB_iff.1 hv
    obtain ⟨v, w, hvw⟩ : ∃ v w, s.2.2 = v :: w := by
      cases hc : s.2.2 with
      | nil => exact absurd hc h1.ne
      | cons v w => exact ⟨v, w, rfl⟩
    have h3 := h2 (v.1, v.2, s.1, s.2.1) (by
      unfold flatG
      exact List.mem_flatMap.2 ⟨s, hs, List.mem_map.2 ⟨v, by rw [hvw]; simp, rfl⟩⟩)
    have := h3.2
    simp only at this
    omega
  rw [sumP_flat, ← fsum_sum hsb, ← pgF_sum k1 hbs _ (Nat.le_refl _)]
  refine sumF_congr (fun t => ?_) _
  rw [fsum_set g1]
  have e1 : setAt (segC rOr l []) t = tS l t := can_unique (setAt_can g1 t) (tS_time h t).can fun x => by rw [← memB_iff, ← memB_iff, g2, tS_memB h]
  rw [e1]
  have hin : ∀ x ∈ txE l, x ∈ endS l := fun x hx => (k2 x).2 hx
  obtain ⟨p1, p2⟩ := pgF_at (l := l) k1 _ (Nat.le_refl ((endS l).length - 1))
  rcases eAt_find k1 t with h1 | h1 | ⟨i, hi, h1, h2⟩
  · rw [tS_none h fun x => inL_out (.inl fun y hy => h1 y (hin y hy)) x]
    rcases Nat.eq_zero_or_pos (endS l).length with hz | hz
    · have : (endS l).length - 1 = 0 := by omega
      rw [this]; rfl
    · rw [p2 t (.inl (h1 _ (eAt_mem.2 ⟨0, hz, rfl⟩)))]; rfl
  · rw [tS_none h fun x => inL_out (.inr fun y hy => h1 y (hin y hy)) x]
    rcases Nat.eq_zero_or_pos (endS l).length with hz | hz
    · have : (endS l).length - 1 = 0 := by omega
      rw [this]; rfl
    · rw [p2 t (.inr (h1 _ (eAt_mem.2 ⟨(endS l).length - 1, by omega, rfl⟩)))]; rfl
  · rw [p1 i hi t h1 h2, tS_eq h fun x => inL_same k1 hin hi h1 h2 x]
theorem mul_is {x y : Int} (hx : 1 ≤ x ∧ x ≤ 1099511627776) (hy : 1 ≤ y ∧ y ≤ 1099511627776) : m_ref01_Mul std x y = some (bif fits (x * y) then (x * y, 0) else (0, 9)) := by
  unfold m_ref01_Mul
  rw [dT hx, dT hy]; rfl
theorem add_is {x y : Int} (hx : 0 ≤ x ∧ x ≤ 9223372036854775807) (hy : 0 ≤ y ∧ y ≤ 9223372036854775807) : m_ref01_Add std x y = some (bif fits (x + y) then (x + y, 0) else (0, 9)) := by
  unfold m_ref01_Add
  rw [dT hx, dT hy]; rfl
theorem fits_t {x : Int} (h : -9223372036854775808 ≤ x ∧ x ≤ 9223372036854775807) : fits x = true := by
  unfold fits; rw [decide_eq_true h.1, decide_eq_true h.2]; rfl
theorem fits_f {x : Int} (h : 9223372036854775807 < x) : fits x = false := by
  unfold fits
  have : decide (x ≤ 9223372036854775807) = false := decide_eq_false (by omega)
  rw [this, Bool.and_false]
theorem sumP_mono {l : List Rc} (h : lvB l = true) : ∀ {i j : Nat}, i ≤ j → j ≤ l.length → sumP (l.take i) ≤ sumP (l.take j) := by
  intro i j hij
  induction j with
  | zero => intro _; have : i = 0 := by omega
            subst this; exact Int.le_refl _
  | succ j ih =>
    intro hj
    rcases Nat.lt_or_ge i (j + 1) with h1 | h1
    · have h2 := ih (by omega) (by omega)
      have h3 := lvB_iff.1 h l[j] (List.getElem_mem (by omega))
      rw [List.take_succ_eq_append_getElem (by omega : j < l.length), sumP_snoc]
      have : 0 ≤ rprod l[j] := Int.mul_nonneg (by omega) (by omega)
      omega
    · have : i = j + 1 := by omega
      subst this; exact Int.le_refl _
theorem p_refArea_L1 {c : List Rc} (h : lvB c = true) (hl : c.length ≤ 500) : loop (m_ref35_Area_L1 std c) (0, 0) = some (if sumP c ≤ 9223372036854775807 then .inr (sumP c) else .inl ()) := by
  have hlp := loop_is (B := m_ref35_Area_L1 std c) (y := (0, 0)) (fun y => ∃ i : Nat, y = (sumP (c.take i), (i : Int)) ∧ i ≤ c.length ∧ sumP (c.take i) ≤ 9223372036854775807) (fun y => c.length - y.2.toNat)
    (fun e => e = if sumP c ≤ 9223372036854775807 then .inr (sumP c) else .inl ()) ⟨0, rfl, Nat.zero_le _, by show (0 : Int) ≤ _; omega⟩ (by show _ - _ < _; omega) (by
    rintro y ⟨i, rfl, hi, hs⟩
    rw [m_ref35_Area_L1_eq]
    have hm0 := sumP_mono h (Nat.zero_le i) hi
    have hz : sumP (c.take 0) = 0 := rfl
    rw [hz] at hm0
    by_cases hi1 : i < c.length
    · have hmn := sumP_mono h (show i + 1 ≤ c.length by omega) (Nat.le_refl _)
      rw [List.take_length, List.take_succ_eq_append_getElem hi1, sumP_snoc] at hmn
      have hv := lvB_iff.1 h c[i] (List.getElem_mem hi1)
      have eg : List.getD c (Int.toNat (i : Int)) (0, 0, 0, 0) = c[i] := by
        rw [Int.toNat_natCast, List.getD_eq_getElem?_getD, List.getElem?_eq_getElem hi1]; rfl
      obtain ⟨r, hr⟩ : ∃ r, c[i] = r := ⟨_, rfl⟩
      rw [hr] at hv hmn
      simp only [eg, hr]
      obtain ⟨p, hp⟩ : ∃ p, (r.2.1 - r.1) * (r.2.2.2 - r.2.2.1) = p := ⟨_, rfl⟩
      have hrp : rprod r = p := hp
      rw [hrp] at hmn
      have hp0 : 0 ≤ p := by rw [← hp]; exact Int.mul_nonneg (by omega) (by omega)
      have hM := mul_is (x := r.2.1 - r.1) (y := r.2.2.2 - r.2.2.1) (by omega) (by omega)
      rw [hp] at hM
      have pre : ∀ {e : (Int × Int) ⊕ (Unit ⊕ Int)} {a b : Int}, (bif fits p then (p, (0 : Int)) else (0, 9)) = (a, b) → (Option.bind (m_ref01_Add std (sumP (c.take i)) a) fun (n70, n71) => Option.bind (bif (!(b == 0)) then (some true) else (some (!(n71 == 0))) : Option Bool) fun x185 => bif x185 then (some (Sum.inr (Sum.inl ()))) else grd (okI .i64 ((i : Int) + 1)) <| (some (Sum.inl (n70, ((i : Int) + 1)))) : Option ((Int × Int) ⊕ (Unit ⊕ Int))) = some e →
          (bif (decide ((i : Int) < (((List.length c) : Nat) : Int))) then
            grd (okIdx (i : Int) ((List.length c))) <| grd (okKin ((Int.toNat (i : Int))) ((List.length c))) <| grd (okI .i64 (r.2.1 - r.1)) <| grd (okI .i64 (r.2.2.2 - r.2.2.1)) <|
            Option.bind (m_ref01_Mul std (r.2.1 - r.1) (r.2.2.2 - r.2.2.1)) fun (n68, n69) => Option.bind (m_ref01_Add std (sumP (c.take i)) n68) fun (n70, n71) =>
            Option.bind (bif (!(n69 == 0)) then (some true) else (some (!(n71 == 0))) : Option Bool) fun x185 => bif x185 then (some (Sum.inr (Sum.inl ()))) else grd (okI .i64 ((i : Int) + 1)) <| (some (Sum.inl (n70, ((i : Int) + 1))))
          else (some (Sum.inr (Sum.inr (sumP (c.take i))))) : Option ((Int × Int) ⊕ (Unit ⊕ Int))) = some e := fun {e a b} hab he =>
        bT (dT (by omega)) (gX (by omega) (gK (by omega) (gI (by omega) (gI (by omega) (bB (hM.trans (congrArg some hab)) he)))))
      by_cases hbig : sumP (c.take i) + p ≤ 9223372036854775807
      · refine ⟨.inl (sumP (c.take (i + 1)), ((i + 1 : Nat) : Int)), pre (a := p) (b := 0) (by rw [fits_t (by omega)]; rfl) (bB (v := (sumP (c.take i) + p, 0)) ((add_is (by omega) (by omega)).trans (by rw [fits_t (by omega)]; rfl)) (bB (v := false) (bF rfl rfl) (bF rfl (gI (by omega) ?_)))), ⟨i + 1, rfl, by omega, ?_⟩, ?_⟩
        · rw [List.take_succ_eq_append_getElem hi1, sumP_snoc, hr, hrp]; rfl
        · rw [List.take_succ_eq_append_getElem hi1, sumP_snoc, hr, hrp]; exact hbig
        · show c.length - Int.toNat ((i + 1 : Nat) : Int) < c.length - Int.toNat (i : Int)
          omega
      · refine ⟨.inr (.inl ()), ?_, ?_⟩
        · by_cases hpf : p ≤ 9223372036854775807
          · refine pre (a := p) (b := 0) (by rw [fits_t (by omega)]; rfl) (bB (v := (0, 9)) ((add_is (by omega) (by omega)).trans (by rw [fits_f (by omega)]; rfl)) (bB (v := true) (bF rfl rfl) (bT rfl rfl)))
          · refine pre (a := 0) (b := 9) (by rw [fits_f (by omega)]; rfl) (bB (v := (sumP (c.take i) + 0, 0)) ((add_is (by omega) (by omega)).trans (by rw [fits_t (by omega)]; rfl)) (bB (v := true) (bT rfl rfl) (bT rfl rfl)))
        · rw [if_neg (by omega)]
    · have hil : i = c.length := by omega
      refine ⟨.inr (.inr (sumP (c.take i))), bF (dF (by omega)) rfl, ?_⟩
      rw [hil, List.take_length] at hs ⊢
      rw [if_pos hs])
  obtain ⟨e, h1, rfl⟩ := hlp
  exact h1
theorem p_refArea {l c : List Rc} {e : Int} (hl : l.length ≤ 500) (w : resC rOr l [] = (c, e)) (hv : lvB c = true) (hn : c.length ≤ 500) : m_ref35_Area std l = some (areaV (sumP c)) := by
  rw [m_ref35_Area_eq]
  refine bB ((p_rCombine_0 l [] (by omega) (by simp)).trans (congrArg some w)) (bB (p_refArea_L1 hv hn) ?_)
  unfold areaV
  by_cases hb : sumP c ≤ 9223372036854775807
  · rw [if_pos hb, if_pos hb]
  · rw [if_neg hb, if_neg hb]
theorem pl_RectangleParts (valid tx : Int) (l : List Rc) : m_law35_RectangleParts std valid tx l = some true := by
  rw [m_law35_RectangleParts_eq]
  refine bB p_awake (bF rfl (bB (p_few l) ?_))
  by_cases la : l.length ≤ 30
  · rw [dT la]
    refine bF rfl (bB (p_ref35_List l (by omega)) ?_)
    cases va : lvB l with
    | false =>
      have hc : chk0 l ≠ 0 := by unfold chk0; rw [va, if_neg (by decide)]; decide
      refine bT rfl (bB (v := true) (bB (p_Has l (by omega) valid tx) ?_) rfl)
      rw [show (chk0 l == 0) = false from eF hc, Bool.false_and]
      have hA : m_rectangle_At std tx l = some [] := by rw [m_rectangle_At_eq]; exact bB (p_check_2 l (by omega)) (bT (nT (eF hc)) rfl)
      have hD : m_rectangle_During std valid l = some [] := by rw [m_rectangle_During_eq]; exact bB (p_check_2 l (by omega)) (bT (nT (eF hc)) rfl)
      have hR : m_rectangle_Area std l = some (-1) := by rw [m_rectangle_Area_eq]; exact bB (p_check_2 l (by omega)) (bT (nT (eF hc)) rfl)
      exact bT rfl (bB hA (bT rfl (bB hD (bT rfl (bB hR rfl)))))
    | true =>
      have n1 := tS_len va tx
      have n2 := tS_len (tu_valid va) valid
      rw [List.length_map] at n2
      refine bF rfl (bB (v := false) (bB (p_Has l (by omega) valid tx) (bB (p_refHas l (by omega) valid tx) (bF ?_ (bB (p_rAt va (by omega) tx) (bB (p_At va (by omega) tx) (bB (p_slices_Equal _ _ (by omega)) (bF (by rw [dT rfl]; rfl) (bB (p_rDuring va (by omega) valid) (bB (p_refDuring va (by omega) valid) (bB (p_slices_Equal _ _ (by omega)) (by rw [dT rfl]; rfl))))))))))) (bF rfl ?_))
      · rw [show (chk0 l == 0) = true from eT (chk0_ok va (by omega)), Bool.true_and]; simp
      · obtain ⟨c, e, w, n, A0, _⟩ := res_ex rOr l []
        refine bB ((p_rCombine_0 l [] (by omega) (by simp)).trans (congrArg some w)) (bB (v := true) ?_ rfl)
        by_cases he : e = 0
        · obtain ⟨_, _, q3⟩ := A0 he
          obtain ⟨g1, g2⟩ := can_pairs va (show l.length ≤ 500 by omega)
          have hv : lvB c = true := by
            rw [q3]
            exact flatG_valid g1 fun x t hx => inL_bd va (by rw [← g2, ← inL_flat g1]; exact hx)
          have hs := area_same va (show l.length ≤ 500 by omega)
          rw [← q3] at hs
          refine bF (nF (eT he)) (bB (p_Area va (by omega)) (bB (p_refArea (by omega) w hv n) (congrArg some ?_)))
          rw [hs]; simp
        · exact bT (nT (eF he)) rfl
  · rw [dF la]; exact bT rfl rfl
end Go.Proofs.YtkdffpncpikdmaaGreat
