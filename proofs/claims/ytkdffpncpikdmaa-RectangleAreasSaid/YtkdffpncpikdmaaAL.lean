/-
  RectangleAreas: the plain law.
-/
import Derived.Test.YtkdffpncpikdmaaAM
import Derived.Test.YtkdffpncpikdmaaAP
namespace Go.Proofs.Ytkdffpncpikdmaa
open Go.RowKit
/-! lengths of sets of times -/
theorem meas_sum : ∀ {l : List Sp}, Can l → (∀ s ∈ l, -62135596800 ≤ s.1 ∧ s.2 ≤ 253402300800) → meas l = sumF (fun x => if memB l x = true then 1 else 0) 315537897600 := by
  intro l
  induction l with
  | nil => intro _ _; exact (sumF_zero _).symm
  | cons s l ih =>
    intro hc hb
    have h1 := hc.ne s (by simp)
    have h2 := hb s (by simp)
    have h3 := (List.pairwise_cons.1 hc.pw).1
    have e : ∀ x, (if memB (s :: l) x = true then (1 : Int) else 0) = ind s.1 s.2 1 x + (if memB l x = true then 1 else 0) := fun x => by
      unfold ind
      by_cases a : s.1 ≤ x ∧ x < s.2
      · have h4 : ¬ memB l x = true := fun hm => by
          obtain ⟨t, ht, k1, k2⟩ := memB_iff.1 hm
          have := h3 t ht
          omega
        rw [if_pos (memB_iff.2 (mem_cons.2 (.inl a))), if_pos a, if_neg h4]; rfl
      · rw [if_neg a]
        by_cases b : memB l x = true
        · rw [if_pos (memB_iff.2 (mem_cons.2 (.inr (memB_iff.1 b)))), if_pos b]; rfl
        · rw [if_neg (fun hm => by rcases mem_cons.1 (memB_iff.1 hm) with g | g; exact a g; exact b (memB_iff.2 g)), if_neg b]; rfl
    rw [sumF_congr e, sumF_add, sumF_ind' h2.1 (by omega) h2.2, ← ih hc.tail (fun t ht => hb t (by simp [ht]))]
    show (s.2 - s.1) + meas l = _
    omega
def arM (l : List Rc) : Int := arP (endS l) l ((endS l).length - 1)
theorem arM_sum {l : List Rc} (h : lvB l = true) : arM l = sumF (fun t => meas (tS l t)) 315537897600 := area_sum h
theorem arM_nonneg {l : List Rc} (h : lvB l = true) : 0 ≤ arM l := by
  have h0 := arP_mono (endS_ok l).1 h (Nat.zero_le ((endS l).length - 1)) (Nat.le_refl _)
  have : arP (endS l) l 0 = 0 := rfl
  unfold arM; omega
theorem arM_add {a b c d : List Rc} (ha : lvB a = true) (hb : lvB b = true) (hc : lvB c = true) (hd : lvB d = true) (hu : ∀ x t, inL c x t = rOr (inL a x t) (inL b x t)) (hm : ∀ x t, inL d x t = rAnd (inL a x t) (inL b x t)) : arM a + arM b = arM c + arM d := by
  rw [arM_sum ha, arM_sum hb, arM_sum hc, arM_sum hd, ← sumF_add, ← sumF_add]
  refine sumF_congr (fun t => ?_) _
  have key : ∀ {l : List Rc}, lvB l = true → meas (tS l t) = sumF (fun x => if inL l x t = true then 1 else 0) 315537897600 := fun {l} h => by
    rw [meas_sum (tS_time h t).can (tS_time h t).line]
    exact sumF_congr (fun x => by rw [tS_memB h]) _
  rw [key ha, key hb, key hc, key hd, ← sumF_add, ← sumF_add]
  refine sumF_congr (fun x => ?_) _
  rw [hu, hm]
  unfold rOr rAnd
  cases inL a x t <;> cases inL b x t <;> rfl
theorem p_AreaM {l : List Rc} (h : lvB l = true) (hl : l.length ≤ 500) : m_rectangle_Area std l = some (areaV (arM l)) := p_Area h hl
theorem areaV_cases (x : Int) (h : 0 ≤ x) : (areaV x = x ∧ 0 ≤ areaV x) ∨ areaV x = -1 := by
  unfold areaV
  split
  · exact .inl ⟨rfl, h⟩
  · exact .inr rfl
theorem p_areas_L1 {p q r s : Int} (h : ∀ n ∈ [p, q, r, s], -1 ≤ n) : (loop (m_areas_L1 std p q r s) 0 = some (.inl true)) ∨ (loop (m_areas_L1 std p q r s) 0 = some (.inr ()) ∧ ∀ n ∈ [p, q, r, s], 0 ≤ n) := by
  have step : ∀ i, i < 4 → (decide (0 ≤ [p, q, r, s].getD i 0) && decide ([p, q, r, s].getD i 0 ≤ 4611686018427387904)) = true → m_areas_L1 std p q r s (i : Int) = some (.inl ((i + 1 : Nat) : Int)) := fun i hi hp => by
    rw [Bool.and_eq_true, decide_eq_true_eq, decide_eq_true_eq] at hp
    unfold m_areas_L1
    refine bT (dT (by show (i : Int) < ((4 : Nat) : Int); omega)) (gX (by show 0 ≤ (i : Int) ∧ (i : Int) < ((4 : Nat) : Int); omega) (gK (by show (Int.toNat (i : Int)) < 4; omega) (bB (v := false) (bF (dF ?_) (congrArg some (dF ?_))) (bF rfl (congrArg (fun x => some (Sum.inl x)) ?_)))))
    · show ¬ 4611686018427387904 < [p, q, r, s].getD (Int.toNat (i : Int)) 0
      rw [Int.toNat_natCast]; omega
    · show ¬ [p, q, r, s].getD (Int.toNat (i : Int)) 0 < 0
      rw [Int.toNat_natCast]; omega
    · have e := okI64 (x := (i : Int) + 1)
      rw [dT (show -9223372036854775808 ≤ (i : Int) + 1 ∧ (i : Int) + 1 ≤ 9223372036854775807 by omega)] at e
      exact of_decide_eq_true e
  rcases first_or (fun i => decide (0 ≤ [p, q, r, s].getD i 0) && decide ([p, q, r, s].getD i 0 ≤ 4611686018427387904)) 4 with g | ⟨k, hk, hp, hb⟩
  · refine .inr ⟨loop_to' (B := m_areas_L1 std p q r s) (n := 4) (fun i => (i : Int)) (by omega) (fun i hi => step i hi (g i hi)) ?_, fun n hn => ?_⟩
    · unfold m_areas_L1; rfl
    · obtain ⟨i, hi, e⟩ := List.getElem_of_mem hn
      have := g i hi
      rw [Bool.and_eq_true, decide_eq_true_eq] at this
      rw [List.getD_eq_getElem?_getD, List.getElem?_eq_getElem hi] at this
      rw [← e]; exact this.1
  · refine .inl (loop_to' (B := m_areas_L1 std p q r s) (n := k) (fun i => (i : Int)) (by omega) (fun i hi => step i (by omega) (hb i hi)) ?_)
    have hm : -1 ≤ [p, q, r, s].getD k 0 := by
      refine h _ ?_
      rw [List.getD_eq_getElem?_getD, List.getElem?_eq_getElem (show k < [p, q, r, s].length from hk)]
      exact List.getElem_mem _
    unfold m_areas_L1
    refine bT (dT (by show (k : Int) < ((4 : Nat) : Int); omega)) (gX (by show 0 ≤ (k : Int) ∧ (k : Int) < ((4 : Nat) : Int); omega) (gK (by show (Int.toNat (k : Int)) < 4; omega) ?_))
    show Option.bind (bif decide (4611686018427387904 < [p, q, r, s].getD (Int.toNat (k : Int)) 0) then some true else some (decide ([p, q, r, s].getD (Int.toNat (k : Int)) 0 < 0))) (fun x364 => bif x364 then some (Sum.inr (Sum.inl (decide (-1 ≤ [p, q, r, s].getD (Int.toNat (k : Int)) 0)))) else some (Sum.inl _)) = _
    rw [Int.toNat_natCast]
    generalize [p, q, r, s].getD k 0 = n at *
    refine bB (v := true) ?_ (bT rfl (by rw [dT hm]))
    rw [Bool.and_eq_false_iff, decide_eq_false_iff_not, decide_eq_false_iff_not] at hp
    by_cases c : 4611686018427387904 < n
    · exact bT (dT c) rfl
    · exact bF (dF c) (congrArg some (dT (by omega)))
theorem pl_RectangleAreas (a b : List Rc) : m_areas std a b = some true := by
  unfold m_areas
  refine bB p_awake (bF rfl ?_)
  show Option.bind (bif decide (15 < ((a.length : Nat) : Int)) then some true else bif decide (15 < ((b.length : Nat) : Int)) then some true else Option.bind (m_ref35_List std a) fun b146 => bif !b146 then some true else Option.bind (m_ref35_List std b) fun b147 => some (!b147)) _ = _
  by_cases la : 15 < ((a.length : Nat) : Int)
  · exact bB (v := true) (bT (dT la) rfl) rfl
  by_cases lb : 15 < ((b.length : Nat) : Int)
  · exact bB (v := true) (bF (dF la) (bT (dT lb) rfl)) rfl
  cases va : lvB a with
  | false => exact bB (v := true) (bF (dF la) (bF (dF lb) (bB (p_ref35_List a (by omega)) (by rw [va]; rfl)))) rfl
  | true =>
  cases vb : lvB b with
  | false => exact bB (v := true) (bF (dF la) (bF (dF lb) (bB (p_ref35_List a (by omega)) (bF (by rw [va]; rfl) (bB (p_ref35_List b (by omega)) (by rw [vb]; rfl)))))) rfl
  | true =>
  refine bB (v := false) (bF (dF la) (bF (dF lb) (bB (p_ref35_List a (by omega)) (bF (by rw [va]; rfl) (bB (p_ref35_List b (by omega)) (by rw [vb]; rfl)))))) (bF rfl ?_)
  obtain ⟨c, e, hc, hcl, hc0, _, _, _⟩ := res_ex rOr a b
  obtain ⟨d, f, hd, hdl, hd0, _, _, _⟩ := res_ex rAnd a b
  refine bB (v := (c, e)) (by rw [p_Union a b (by omega) (by omega), hc]) (bB (v := (d, f)) (by rw [p_Meet a b (by omega) (by omega), hd]) ?_)
  show Option.bind (bif !(e == 0) then some true else some (!(f == 0))) _ = _
  by_cases he : e = 0
  · by_cases hf : f = 0
    · refine bB (v := false) (bF (nF (eT he)) (congrArg some (nF (eT hf)))) (bF rfl ?_)
      obtain ⟨_, _, rfl⟩ := hc0 he
      obtain ⟨_, _, rfl⟩ := hd0 hf
      obtain ⟨cg, cm⟩ := segC_ok IsRule.or (a := a) (b := b) va vb (by omega) (by omega)
      obtain ⟨dg, dm⟩ := segC_ok IsRule.and (a := a) (b := b) va vb (by omega) (by omega)
      have hu : ∀ x t, inL (flatG (segC rOr a b)) x t = rOr (inL a x t) (inL b x t) := fun x t => by rw [inL_flat cg, cm]
      have hm : ∀ x t, inL (flatG (segC rAnd a b)) x t = rAnd (inL a x t) (inL b x t) := fun x t => by rw [inL_flat dg, dm]
      have vc : lvB (flatG (segC rOr a b)) = true := flatG_valid cg fun x t hx => by
        rw [hu] at hx
        unfold rOr at hx
        rw [Bool.or_eq_true] at hx
        rcases hx with hx | hx
        · exact inL_bd va hx
        · exact inL_bd vb hx
      have vd : lvB (flatG (segC rAnd a b)) = true := flatG_valid dg fun x t hx => by
        rw [hm] at hx
        unfold rAnd at hx
        rw [Bool.and_eq_true] at hx
        exact inL_bd va hx.1
      have hsum := arM_add va vb vc vd hu hm
      have na := areaV_cases _ (arM_nonneg va)
      have nb := areaV_cases _ (arM_nonneg vb)
      have nc := areaV_cases _ (arM_nonneg vc)
      have nd := areaV_cases _ (arM_nonneg vd)
      refine bB (p_AreaM va (by omega)) (bB (p_AreaM vb (by omega)) (bB (p_AreaM vc hcl) (bB (p_AreaM vd hdl) ?_)))
      generalize arM a = x1 at *
      generalize arM b = x2 at *
      generalize arM (flatG (segC rOr a b)) = x3 at *
      generalize arM (flatG (segC rAnd a b)) = x4 at *
      rcases p_areas_L1 (p := areaV x1) (q := areaV x2) (r := areaV x3) (s := areaV x4) (fun n hn => by
        simp only [List.mem_cons, List.not_mem_nil, or_false] at hn
        rcases hn with rfl | rfl | rfl | rfl <;> omega) with h | ⟨h, h0⟩
      · exact bB h rfl
      · refine bB h ?_
        have k1 := h0 (areaV x1) (by simp)
        have k2 := h0 (areaV x2) (by simp)
        have k3 := h0 (areaV x3) (by simp)
        have k4 := h0 (areaV x4) (by simp)
        have : areaV x1 + areaV x2 = areaV x3 + areaV x4 := by omega
        show some (IntKind.wrap .i64 (areaV x1 + areaV x2) == IntKind.wrap .i64 (areaV x3 + areaV x4)) = some true
        rw [this]
        exact congrArg some (eT rfl)
    · exact bB (v := true) (bF (nF (eT he)) (congrArg some (nT (eF hf)))) rfl
  · exact bB (v := true) (bT (nT (eF he)) rfl) rfl
end Go.Proofs.Ytkdffpncpikdmaa
