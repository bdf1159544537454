/-
  Rectangles: another order of the rectangles, one cut into two.
-/
import Derived.Test.YtkdffpncpikdmaaT11
namespace Go.Proofs.Ytkdffpncpikdmaa
open Go.RowKit

/-- the same elements, as many -/
def Same (l l' : List Rc) : Prop := l'.length = l.length ∧ ∀ r, r ∈ l' ↔ r ∈ l
theorem mem_getD {l : List Rc} {r : Rc} : r ∈ l ↔ ∃ k, k < l.length ∧ l.getD k (0, 0, 0, 0) = r := by
  constructor
  · intro h
    obtain ⟨k, hk, e⟩ := List.getElem_of_mem h
    exact ⟨k, hk, by rw [List.getD_eq_getElem?_getD, List.getElem?_eq_getElem hk]; exact e⟩
  · rintro ⟨k, hk, e⟩
    rw [List.getD_eq_getElem?_getD, List.getElem?_eq_getElem hk] at e
    rw [← e]; exact List.getElem_mem hk
theorem set_getD (l : List Rc) (i k : Nat) (r : Rc) (hi : i < l.length) : (l.set i r).getD k (0, 0, 0, 0) = if k = i then r else l.getD k (0, 0, 0, 0) := by
  rw [List.getD_eq_getElem?_getD, List.getD_eq_getElem?_getD, List.getElem?_set]
  by_cases h : i = k
  · subst h; rw [if_pos rfl, if_pos hi, if_pos rfl]; rfl
  · rw [if_neg h, if_neg (fun e => h e.symm)]
theorem swap_same {l : List Rc} {i j : Nat} (hi : i < l.length) (hj : j < l.length) : Same l ((l.set i (l.getD j (0, 0, 0, 0))).set j (l.getD i (0, 0, 0, 0))) := by
  refine ⟨by simp, fun r => ?_⟩
  rw [mem_getD, mem_getD]
  have hl : ((l.set i (l.getD j (0, 0, 0, 0))).set j (l.getD i (0, 0, 0, 0))).length = l.length := by simp
  rw [hl]
  have g : ∀ k, ((l.set i (l.getD j (0, 0, 0, 0))).set j (l.getD i (0, 0, 0, 0))).getD k (0, 0, 0, 0) = if k = j then l.getD i (0, 0, 0, 0) else if k = i then l.getD j (0, 0, 0, 0) else l.getD k (0, 0, 0, 0) := fun k => by
    rw [set_getD _ _ _ _ (by simpa using hj), set_getD _ _ _ _ hi]
  constructor
  · rintro ⟨k, hk, e⟩
    rw [g] at e
    by_cases h1 : k = j
    · rw [if_pos h1] at e; exact ⟨i, hi, e⟩
    · rw [if_neg h1] at e
      by_cases h2 : k = i
      · rw [if_pos h2] at e; exact ⟨j, hj, e⟩
      · rw [if_neg h2] at e; exact ⟨k, hk, e⟩
  · rintro ⟨k, hk, e⟩
    by_cases h1 : k = i
    · refine ⟨j, hj, ?_⟩
      rw [g, if_pos rfl, ← h1]; exact e
    · by_cases h2 : k = j
      · refine ⟨i, hi, ?_⟩
        rw [g]
        by_cases h3 : i = j
        · rw [if_pos h3, h3, ← h2]; exact e
        · rw [if_neg h3, if_pos rfl, ← h2]; exact e
      · refine ⟨k, hk, ?_⟩
        rw [g, if_neg h2, if_neg h1]; exact e
theorem Same.trans {a b c : List Rc} (h : Same a b) (h' : Same b c) : Same a c := ⟨h'.1.trans h.1, fun r => (h'.2 r).trans (h.2 r)⟩
theorem rc_eta (r : Rc) : (r.1, r.2.1, r.2.2.1, r.2.2.2) = r := rfl
theorem p_reverse {l : List Rc} (hl : l.length ≤ 1000000) (h0 : 0 < l.length) : ∃ l', loop (m_law35_RectangleOrder_L1 std) (0, ((((List.length l) : Nat) : Int) - 1), l) = some l' ∧ Same l l' := by
  refine loop_is (B := m_law35_RectangleOrder_L1 std) (y := (0, ((((List.length l) : Nat) : Int) - 1), l)) (fun y => ∃ i : Nat, y.1 = (i : Int) ∧ i ≤ l.length ∧ -1 ≤ y.2.1 ∧ y.2.1 < (l.length : Int) ∧ Same l y.2.2) (fun y => (y.2.1 + 1).toNat) (fun e => Same l e)
    ⟨0, rfl, Nat.zero_le _, by show -1 ≤ ((l.length : Nat) : Int) - 1; omega, by show ((l.length : Nat) : Int) - 1 < _; omega, rfl, fun _ => Iff.rfl⟩ (by show Int.toNat (((l.length : Nat) : Int) - 1 + 1) < _; omega) ?_
  rintro ⟨x, j, q⟩ ⟨i, h1, hi, h2, h3, h4⟩
  change x = (i : Int) at h1
  change -1 ≤ j at h2
  change j < (l.length : Int) at h3
  change Same l q at h4
  subst h1
  have hq := h4.1
  rw [m_law35_RectangleOrder_L1_eq]
  by_cases hlt : (i : Int) < j
  · obtain ⟨k, rfl⟩ : ∃ k : Nat, j = (k : Int) := ⟨j.toNat, by omega⟩
    have hs := swap_same (l := q) (i := i) (j := k) (by omega) (by omega)
    simp only [Int.toNat_natCast, rc_eta]
    have hg : (List.set q i (List.getD q k (0, 0, 0, 0))).length = q.length := by simp
    refine ⟨.inl (((i + 1 : Nat) : Int), (k : Int) - 1, (q.set i (q.getD k (0, 0, 0, 0))).set k (q.getD i (0, 0, 0, 0))), bT (dT hlt) (gX (by omega) (gK (by omega) (gX (by omega) (gK (by omega) (gX (by omega) (gK (by omega) (gI (by omega) (gI (by omega) rfl)))))))), ⟨i + 1, rfl, by omega, by show -1 ≤ (k : Int) - 1; omega, by show (k : Int) - 1 < _; omega, h4.trans hs⟩, ?_⟩
    show Int.toNat ((k : Int) - 1 + 1) < Int.toNat ((k : Int) + 1)
    omega
  · exact ⟨.inr q, bF (dF hlt) rfl, h4⟩
theorem inL_mem {l l' : List Rc} (h : ∀ r, r ∈ l' ↔ r ∈ l) (x t : Int) : inL l' x t = inL l x t := by
  unfold inL
  rw [Bool.eq_iff_iff, List.any_eq_true, List.any_eq_true]
  exact ⟨fun ⟨r, hr, e⟩ => ⟨r, (h r).1 hr, e⟩, fun ⟨r, hr, e⟩ => ⟨r, (h r).2 hr, e⟩⟩
theorem inL_app (a b : List Rc) (x t : Int) : inL (a ++ b) x t = (inL a x t || inL b x t) := by simp [inL]
/-- one rectangle cut into two -/
theorem cut_two {r f s : Rc} {x t : Int} (hv : vrB r = true) (h : (f = r ∧ s = r) ∨ (∃ a, r.1 < a ∧ a < r.2.1 ∧ f = (r.1, a, r.2.2.1, r.2.2.2) ∧ s = (a, r.2.1, r.2.2.1, r.2.2.2)) ∨ ∃ a, r.2.2.1 < a ∧ a < r.2.2.2 ∧ f = (r.1, r.2.1, r.2.2.1, a) ∧ s = (r.1, r.2.1, a, r.2.2.2)) :
    (inR f x t || inR s x t) = inR r x t ∧ vrB f = true ∧ vrB s = true := by
  have hv' := hv
  unfold vrB tsB at hv'
  rw [Bool.and_eq_true, decide_eq_true_eq, decide_eq_true_eq] at hv'
  rcases h with ⟨rfl, rfl⟩ | ⟨a, h1, h2, rfl, rfl⟩ | ⟨a, h1, h2, rfl, rfl⟩
  · exact ⟨Bool.or_self _, hv, hv⟩
  · refine ⟨?_, ?_, ?_⟩
    · rw [Bool.eq_iff_iff]
      unfold inR
      simp only [Bool.or_eq_true, Bool.and_eq_true, decide_eq_true_eq]
      omega
    · unfold vrB tsB; rw [Bool.and_eq_true, decide_eq_true_eq, decide_eq_true_eq]; simp only []; omega
    · unfold vrB tsB; rw [Bool.and_eq_true, decide_eq_true_eq, decide_eq_true_eq]; simp only []; omega
  · refine ⟨?_, ?_, ?_⟩
    · rw [Bool.eq_iff_iff]
      unfold inR
      simp only [Bool.or_eq_true, Bool.and_eq_true, decide_eq_true_eq]
      omega
    · unfold vrB tsB; rw [Bool.and_eq_true, decide_eq_true_eq, decide_eq_true_eq]; simp only []; omega
    · unfold vrB tsB; rw [Bool.and_eq_true, decide_eq_true_eq, decide_eq_true_eq]; simp only []; omega
theorem can_same {a b : List Rc} (ha : lvB a = true) (hb : lvB b = true) (hla : a.length ≤ 500) (hlb : b.length ≤ 500) (h : ∀ x t, inL a x t = inL b x t) : resC rOr a [] = resC rOr b [] := by
  obtain ⟨a1, a2⟩ := can_pairs ha hla
  obtain ⟨b1, b2⟩ := can_pairs hb hlb
  have he := uniqL a1 b1 fun x t => by rw [a2, b2, h]
  unfold resC
  rw [if_pos (chk2_zero.2 ⟨ha, rfl, hla, by simp⟩), if_pos (chk2_zero.2 ⟨hb, rfl, hlb, by simp⟩), he]
theorem pl_RectangleOrder (turn at_ : Int) (by_ : Bool) (l : List Rc) (ht : 0 ≤ turn) (ht2 : turn ≤ 255) : m_law35_RectangleOrder std turn at_ by_ l = some true := by
  rw [m_law35_RectangleOrder_eq]
  refine bB p_awake (bF rfl ?_)
  by_cases h : l.length ≤ 29 ∧ lvB l = true ∧ l.length ≠ 0
  · obtain ⟨la, va, l0⟩ := h
    refine bB (v := false) (bF (dF (by omega)) (bB (p_ref35_List l (by omega)) (bF (by rw [va]; rfl) (congrArg some (eF (by omega)))))) (bF rfl (gI (by omega) (gZ (by omega) ?_)))
    obtain ⟨k, hk, hkl⟩ : ∃ k : Nat, Int.tmod turn ((l.length : Nat) : Int) = (k : Int) ∧ k < l.length := by
      obtain ⟨n, rfl⟩ : ∃ n : Nat, turn = (n : Int) := ⟨turn.toNat, by omega⟩
      exact ⟨n % l.length, nat_tmod n l.length, Nat.mod_lt _ (by omega)⟩
    rw [hk]
    refine gG (by omega) ?_
    rw [Int.toNat_natCast]
    have e1 : List.take (l.length - k) (l.drop k) = l.drop k := List.take_of_length_le (by simp)
    have e2 : List.take (k - 0) (l.drop 0) = l.take k := by simp
    rw [e1, e2]
    refine bB (p_Concat _ _ (by simp; omega) (by simp; omega)) ?_
    have hL : (l.drop k ++ l.take k).length = l.length := by simp; omega
    obtain ⟨q, hq, hs⟩ := p_reverse (l := l.drop k ++ l.take k) (by omega) (by omega)
    refine gI (by omega) (bB hq ?_)
    have hmem : ∀ r, r ∈ q ↔ r ∈ l := fun r => by
      rw [hs.2, List.mem_append, or_comm, ← List.mem_append, List.take_append_drop]
    have hql : q.length = l.length := hs.1.trans hL
    obtain ⟨r0, rest, rfl⟩ : ∃ r0 rest, q = r0 :: rest := by
      cases q with
      | nil => simp at hql; omega
      | cons r0 rest => exact ⟨r0, rest, rfl⟩
    have v0 : vrB r0 = true := by
      unfold lvB at va
      rw [List.all_eq_true] at va
      exact va r0 ((hmem r0).1 (by simp))
    have eg : List.getD (r0 :: rest) (Int.toNat 0) (0, 0, 0, 0) = r0 := rfl
    have el : Int.toNat (((r0 :: rest).length : Nat) : Int) = rest.length + 1 := by rw [Int.toNat_natCast]; rfl
    have ed : List.take (rest.length + 1 - Int.toNat 1) (List.drop (Int.toNat 1) (r0 :: rest)) = rest := by
      show List.take (rest.length + 1 - 1) (List.drop 1 (r0 :: rest)) = rest
      simp
    have hrl : rest.length ≤ 28 := by simp at hql; omega
    simp only [eg, el, ed]
    refine gX (by simp) (gK (by show (0 : Nat) < _; simp) ?_)
    have main : ∀ (x281 x282 x288 x289 : Int), (((r0.1, x281, r0.2.2.1, x288) = r0 ∧ (x282, r0.2.1, x289, r0.2.2.2) = r0) ∨ (∃ a, r0.1 < a ∧ a < r0.2.1 ∧ (r0.1, x281, r0.2.2.1, x288) = (r0.1, a, r0.2.2.1, r0.2.2.2) ∧ (x282, r0.2.1, x289, r0.2.2.2) = (a, r0.2.1, r0.2.2.1, r0.2.2.2)) ∨ ∃ a, r0.2.2.1 < a ∧ a < r0.2.2.2 ∧ (r0.1, x281, r0.2.2.1, x288) = (r0.1, r0.2.1, r0.2.2.1, a) ∧ (x282, r0.2.1, x289, r0.2.2.2) = (r0.1, r0.2.1, a, r0.2.2.2)) →
        (Option.bind (m_rectangle_Canonical std l) fun (l256, n96) =>
          Option.bind (m_rectangle_Canonical std (rest ++ [(r0.1, x281, r0.2.2.1, x288), (x282, r0.2.1, x289, r0.2.2.2)])) fun (l257, n97) =>
          Option.bind (
            bif (n96 == n97) then
              Option.bind (m_slices_Equal_2 std l256 l257) fun b120 =>
              bif b120 then
                bif (!(n96 == 0)) then
                  (some true)
                else
                  Option.bind (m_rectangle_Equal std l (rest ++ [(r0.1, x281, r0.2.2.1, x288), (x282, r0.2.1, x289, r0.2.2.2)])) fun b121 =>
                  (some b121)
              else
                (some false)
            else
              (some false) : Option ((Bool))) fun x293 =>
          (some x293)) = some true := fun x281 x282 x288 x289 hcut => by
      obtain ⟨f, hf⟩ : ∃ f, (r0.1, x281, r0.2.2.1, x288) = f := ⟨_, rfl⟩
      obtain ⟨s, hss⟩ : ∃ f, (x282, r0.2.1, x289, r0.2.2.2) = f := ⟨_, rfl⟩
      rw [hf, hss] at hcut ⊢
      have hc := fun x t => cut_two (x := x) (t := t) v0 hcut
      have hol : (rest ++ [f, s]).length ≤ 30 := by simp; omega
      have hin : ∀ x t, inL l x t = inL (rest ++ [f, s]) x t := fun x t => by
        rw [← inL_mem hmem x t, inL_app]
        have e1 : inL (r0 :: rest) x t = (inR r0 x t || inL rest x t) := rfl
        have e2 : inL [f, s] x t = (inR f x t || inR s x t) := by simp [inL]
        rw [e1, e2, (hc x t).1, Bool.or_comm]
      have hov : lvB (rest ++ [f, s]) = true := by
        unfold lvB
        rw [List.all_append, Bool.and_eq_true]
        constructor
        · rw [List.all_eq_true]
          intro r hr
          unfold lvB at va
          rw [List.all_eq_true] at va
          exact va r ((hmem r).1 (by simp [hr]))
        · have := hc 0 0
          simp [this.2.1, this.2.2]
      have hres := can_same va hov (by omega) (by omega) hin
      obtain ⟨c, e, w, n, _⟩ := res_ex rOr l []
      refine bB ((p_Canonical l (by omega)).trans (congrArg some w)) (bB ((p_Canonical (rest ++ [f, s]) (by omega)).trans (congrArg some (hres.symm.trans w))) (bB (v := true) (bT (eT rfl) (bB (p_slices_Equal_2 c c (by omega)) (bT (dT rfl) ?_))) rfl))
      by_cases he : e = 0
      · exact bF (nF (eT he)) (bB (equal_good (GdL.self va (by omega)) (GdL.self hov (by omega)) hin) rfl)
      · exact bT (nT (eF he)) rfl
    have tail : ∀ (x281 x282 x288 x289 : Int), (((r0.1, x281, r0.2.2.1, x288) = r0 ∧ (x282, r0.2.1, x289, r0.2.2.2) = r0) ∨ (∃ a, r0.1 < a ∧ a < r0.2.1 ∧ (r0.1, x281, r0.2.2.1, x288) = (r0.1, a, r0.2.2.1, r0.2.2.2) ∧ (x282, r0.2.1, x289, r0.2.2.2) = (a, r0.2.1, r0.2.2.1, r0.2.2.2)) ∨ ∃ a, r0.2.2.1 < a ∧ a < r0.2.2.2 ∧ (r0.1, x281, r0.2.2.1, x288) = (r0.1, r0.2.1, r0.2.2.1, a) ∧ (x282, r0.2.1, x289, r0.2.2.2) = (r0.1, r0.2.1, a, r0.2.2.2)) → _ := fun x281 x282 x288 x289 hcut => gG (i := (((r0 :: rest).length : Nat) : Int)) (n := (r0 :: rest).length) (by omega) (gG (i := (((r0 :: rest).length : Nat) : Int)) (n := rest.length + 1) ⟨by omega, by show ((rest.length + 1 : Nat) : Int) ≤ ((rest.length + 1 : Nat) : Int); omega⟩ (gG (i := 1) (n := rest.length + 1) (by omega) (gR (n := rest.length) (by omega) (gR (n := List.length [(r0.1, x281, r0.2.2.1, x288), (x282, r0.2.1, x289, r0.2.2.2)]) (by simp) (gK (i := 0) (n := List.length [(r0.1, x281, r0.2.2.1, x288), (x282, r0.2.1, x289, r0.2.2.2)]) (by simp) (main x281 x282 x288 x289 hcut))))))
    cases by_ with
    | true =>
      by_cases a1 : r0.1 < at_
      · by_cases a2 : at_ < r0.2.1
        · exact bB (v := (true, true)) (bT rfl (bT (dT a1) (congrArg some (by rw [dT a2])))) (bB (v := (at_, at_)) (bT rfl rfl) (bB (v := false) (bF rfl rfl) (bB (v := (r0.2.2.2, r0.2.2.1)) (bF rfl rfl) (tail at_ at_ r0.2.2.2 r0.2.2.1 (.inr (.inl ⟨at_, a1, a2, rfl, rfl⟩))))))
        · exact bB (v := (true, false)) (bT rfl (bT (dT a1) (congrArg some (by rw [dF a2])))) (bB (v := (r0.2.1, r0.1)) (bF rfl rfl) (bB (v := false) (bF rfl rfl) (bB (v := (r0.2.2.2, r0.2.2.1)) (bF rfl rfl) (tail r0.2.1 r0.1 r0.2.2.2 r0.2.2.1 (.inl ⟨rfl, rfl⟩)))))
      · exact bB (v := (true, false)) (bT rfl (bF (dF a1) rfl)) (bB (v := (r0.2.1, r0.1)) (bF rfl rfl) (bB (v := false) (bF rfl rfl) (bB (v := (r0.2.2.2, r0.2.2.1)) (bF rfl rfl) (tail r0.2.1 r0.1 r0.2.2.2 r0.2.2.1 (.inl ⟨rfl, rfl⟩)))))
    | false =>
      by_cases a1 : r0.2.2.1 < at_
      · by_cases a2 : at_ < r0.2.2.2
        · exact bB (v := (false, false)) (bF rfl rfl) (bB (v := (r0.2.1, r0.1)) (bF rfl rfl) (bB (v := true) (bT rfl (bT (dT a1) (congrArg some (dT a2)))) (bB (v := (at_, at_)) (bT rfl rfl) (tail r0.2.1 r0.1 at_ at_ (.inr (.inr ⟨at_, a1, a2, rfl, rfl⟩))))))
        · exact bB (v := (false, false)) (bF rfl rfl) (bB (v := (r0.2.1, r0.1)) (bF rfl rfl) (bB (v := false) (bT rfl (bT (dT a1) (congrArg some (dF a2)))) (bB (v := (r0.2.2.2, r0.2.2.1)) (bF rfl rfl) (tail r0.2.1 r0.1 r0.2.2.2 r0.2.2.1 (.inl ⟨rfl, rfl⟩)))))
      · exact bB (v := (false, false)) (bF rfl rfl) (bB (v := (r0.2.1, r0.1)) (bF rfl rfl) (bB (v := false) (bT rfl (bF (dF a1) rfl)) (bB (v := (r0.2.2.2, r0.2.2.1)) (bF rfl rfl) (tail r0.2.1 r0.1 r0.2.2.2 r0.2.2.1 (.inl ⟨rfl, rfl⟩)))))
  · refine bB (v := true) ?_ (bT rfl rfl)
    by_cases la : l.length ≤ 29
    · refine bF (dF (by omega)) (bB (p_ref35_List l (by omega)) ?_)
      cases va : lvB l with
      | false => rfl
      | true =>
        refine bF rfl (congrArg some (eT ?_))
        by_cases l0 : l.length = 0
        · omega
        · exact absurd ⟨la, va, l0⟩ h
    · exact bT (dT (by omega)) rfl
end Go.Proofs.Ytkdffpncpikdmaa
