/-
  RecurrenceForms: canonical forms, which rules have the same; the reference's; the plain law.
-/
import Derived.Test.YtmnhfaaaaejpaaaGreatYN3
import Derived.Test.YtmnhfaaaaejpaaaGreatYfQ
namespace Go.Proofs.YtmnhfaaaaejpaaaGreat.R
open Go.RowKit Go.Proofs.YtmnhfaaaaejpaaaGreat
set_option maxRecDepth 100000

/-- the elements of a list of days, ascending, each of them once -/
def ordL (l : List (Int × Int)) : List (Int × Int) := Lib.compact (sortOr l)
theorem ordL_ok (l : List (Int × Int)) : (ordL l).Pairwise OrLt ∧ ∀ x, x ∈ ordL l ↔ x ∈ l := by
  obtain ⟨h1, h2⟩ := compOr_ok (sortOr_spec l).2
  exact ⟨h1, fun x => (h2 x).trans (sortOr_spec l).1.mem_iff⟩
theorem ordL_len (l : List (Int × Int)) : (ordL l).length ≤ l.length := by
  have h3 : (ordL l).length ≤ (sortOr l).length := compOr_len _
  rw [sortOr_len] at h3; exact h3
theorem or_irr {x : Int × Int} (h : OrLt x x) : False := by unfold OrLt at h; omega
theorem or_tr {x y z : Int × Int} (h : OrLt x y) (h2 : OrLt y z) : OrLt x z := by unfold OrLt at *; omega
theorem or_uniq : ∀ {a b : List (Int × Int)}, a.Pairwise OrLt → b.Pairwise OrLt → (∀ x, x ∈ a ↔ x ∈ b) → a = b := by
  intro a
  induction a with
  | nil =>
    intro b _ _ h
    cases b with
    | nil => rfl
    | cons y t => exact absurd ((h y).2 List.mem_cons_self) (List.not_mem_nil)
  | cons x s ih =>
    intro b ha hb h
    cases b with
    | nil => exact absurd ((h x).1 List.mem_cons_self) (List.not_mem_nil)
    | cons y t =>
      obtain ⟨a1, a2⟩ := List.pairwise_cons.1 ha
      obtain ⟨b1, b2⟩ := List.pairwise_cons.1 hb
      have e : x = y := by
        rcases List.mem_cons.1 ((h x).1 List.mem_cons_self) with g | g
        · exact g
        · rcases List.mem_cons.1 ((h y).2 List.mem_cons_self) with k | k
          · exact k.symm
          · exact (or_irr (or_tr (a1 y k) (b1 x g))).elim
      subst e
      refine congrArg (List.cons x) (ih a2 b2 fun z => ?_)
      constructor
      · intro hz
        rcases List.mem_cons.1 ((h z).1 (List.mem_cons_of_mem _ hz)) with g | g
        · have := a1 z hz; rw [g] at this; exact (or_irr this).elim
        · exact g
      · intro hz
        rcases List.mem_cons.1 ((h z).2 (List.mem_cons_of_mem _ hz)) with g | g
        · have := b1 z hz; rw [g] at this; exact (or_irr this).elim
        · exact g

theorem lstB_len {low high : Int} {b : Bool} {l : List Int} (h : lstB low high b l = true) : (l.length : Int) ≤ 60 := by
  unfold lstB at h
  rw [Bool.and_eq_true, decide_eq_true_eq] at h
  exact h.1
/-- the lengths of a valid rule's lists -/
structure Lens (r : Rec) : Prop where
  mo : (r.mo.length : Int) ≤ 60
  md : (r.md.length : Int) ≤ 60
  yd : (r.yd.length : Int) ≤ 60
  wk : (r.wk.length : Int) ≤ 60
  dy : (r.dy.length : Int) ≤ 60
  hr : (r.h.length : Int) ≤ 60
  mi : (r.m.length : Int) ≤ 60
  se : (r.s.length : Int) ≤ 60
  ps : (r.ps.length : Int) ≤ 60
theorem lens {r : Rec} (hv : vldB r = true) : Lens r := by
  unfold vldB at hv
  simp only [Bool.and_eq_true] at hv
  obtain ⟨_, _, _, _, _, a6, a7, a8, a9, b1, b2, b3, b4, _, b6, _⟩ := hv
  unfold dayL at b6
  rw [Bool.and_eq_true, decide_eq_true_eq] at b6
  exact ⟨lstB_len a6, lstB_len a7, lstB_len a8, lstB_len a9, b6.1, lstB_len b1, lstB_len b2, lstB_len b3, lstB_len b4⟩
theorem p_Canonical_bad {r : Rec} (h : vldB r = false) : m_recurrence_Canonical std r.f r.N r.c r.u r.w r.mo r.md r.yd r.wk r.dy r.h r.m r.s r.ps = some (0, 0, 0, 0, [], [], [], [], [], [], [], [], [], 0, 1) := by
  rw [m_recurrence_Canonical_eq]
  exact bB (p_Valid r) (by rw [h]; exact bT rfl rfl)
theorem p_Canonical {r : Rec} (h : vldB r = true) : m_recurrence_Canonical std r.f r.N r.c r.u r.w r.mo r.md r.yd r.wk r.dy r.h r.m r.s r.ps = some (r.f, r.N, r.c, r.u, setL r.mo, setL r.md, setL r.yd, setL r.wk, ordL r.dy, setL r.h, setL r.m, setL r.s, setL r.ps, r.w, 0) := by
  obtain ⟨l1, l2, l3, l4, l5, l6, l7, l8, l9⟩ := lens h
  rw [m_recurrence_Canonical_eq]
  refine bB (p_Valid r) ?_
  rw [h]
  refine bF rfl ?_
  refine bB (p_recurrence_set (by omega)) (gI (by omega) (bB (p_recurrence_set (by omega)) (gI (by omega) (bB (p_recurrence_set (by omega)) (gI (by omega) (bB (p_recurrence_set (by omega)) (gI (by omega) (bB (p_recurrence_set (by omega)) (gI (by omega) (bB (p_recurrence_set (by omega)) (gI (by omega) (bB (p_recurrence_set (by omega)) (gI (by omega) (bB (p_recurrence_set (by omega)) (gI (by omega) ?_)))))))))))))))
  exact bB (v := r.dy) (by rw [m_clone_i2_eq]; exact gR (by omega) rfl) (bB (v := sortOr r.dy) (by rw [m_sortOr_eq]; exact gR (by omega) rfl) (bB (v := ordL r.dy) (by rw [m_compOr_eq]; exact gR (by rw [sortOr_len]; omega) rfl) rfl))

/-! equal lists -/
theorem getD_eq {α : Type} {a b : List α} {d : α} (hl : a.length = b.length) (h : ∀ i, i < a.length → a.getD i d = b.getD i d) : a = b := by
  refine List.ext_getElem hl fun i h1 h2 => ?_
  have := h i h1
  rw [List.getD_eq_getElem?_getD, List.getD_eq_getElem?_getD, List.getElem?_eq_getElem h1, List.getElem?_eq_getElem h2] at this
  exact this
theorem p_slices_Equal {a b : List (Int × Int)} (ha : (a.length : Int) ≤ 1000000) : m_slices_Equal std a b = some (decide (a = b)) := by
  rw [m_slices_Equal_eq]
  by_cases hl : a.length = b.length
  · refine bF (by rw [eT (by omega)]; rfl) ?_
    have := loop_is (B := m_slices_Equal_L1 std a b) (fun s => ∃ i : Nat, s = (i : Int) ∧ i ≤ a.length ∧ ∀ j, j < i → a.getD j (0, 0) = b.getD j (0, 0)) (fun s => ((a.length : Int) - s).toNat)
      (fun e => match e with | .inl _ => a ≠ b | .inr _ => a = b) (y := 0) ⟨0, rfl, Nat.zero_le _, fun j hj => absurd hj (Nat.not_lt_zero _)⟩ (by show ((a.length : Int) - 0).toNat < _; omega) (fun s hs => by
      obtain ⟨i, rfl, hi, hn⟩ := hs
      rw [m_slices_Equal_L1_eq]
      by_cases c : i < a.length
      · by_cases hv : a.getD i (0, 0) = b.getD i (0, 0)
        · refine ⟨.inl ((i : Int) + 1), bT (dT (by omega)) (gX (by omega) (gK (by omega) (gX (by omega) (gK (by omega) (bF ?_ (gI (by omega) rfl)))))), ⟨i + 1, rfl, c, fun j hj => ?_⟩, by show ((a.length : Int) - ((i : Int) + 1)).toNat < ((a.length : Int) - (i : Int)).toNat; omega⟩
          · rw [Int.toNat_natCast, hv]; simp
          · rcases Nat.lt_succ_iff_lt_or_eq.1 hj with h | h
            · exact hn j h
            · subst h; exact hv
        · refine ⟨.inr (.inl ()), bT (dT (by omega)) (gX (by omega) (gK (by omega) (gX (by omega) (gK (by omega) (bT ?_ rfl))))), fun e => hv (by rw [e])⟩
          rw [Int.toNat_natCast]
          revert hv
          generalize a.getD i (0, 0) = x
          generalize b.getD i (0, 0) = y
          intro hv
          first
            | (rw [eF hv]; rfl)
            | (obtain ⟨x1, x2⟩ := x
               obtain ⟨y1, y2⟩ := y
               rw [Bool.not_eq_true', Bool.and_eq_false_iff, beq_eq_false_iff_ne, beq_eq_false_iff_ne]
               by_cases h1 : x1 = y1
               · exact .inr fun h2 => hv (by simp only [] at h2; rw [h1, h2])
               · exact .inl h1)
      · exact ⟨.inr (.inr ()), bF (dF (by omega)) rfl, getD_eq hl fun j hj => hn j (by omega)⟩)
    obtain ⟨e, he, hq⟩ := this
    rw [he, Option.bind_some]
    cases e with
    | inl x => exact congrArg some (dF hq).symm
    | inr x => exact congrArg some (dT hq).symm
  · refine bT (by rw [eF (by omega)]; rfl) (congrArg some (dF fun e => hl (by rw [e])).symm)
theorem p_slices_Equal_2 {a b : List Int} (ha : (a.length : Int) ≤ 1000000) : m_slices_Equal_2 std a b = some (decide (a = b)) := by
  rw [m_slices_Equal_2_eq]
  by_cases hl : a.length = b.length
  · refine bF (by rw [eT (by omega)]; rfl) ?_
    have := loop_is (B := m_slices_Equal_2_L1 std a b) (fun s => ∃ i : Nat, s = (i : Int) ∧ i ≤ a.length ∧ ∀ j, j < i → a.getD j 0 = b.getD j 0) (fun s => ((a.length : Int) - s).toNat)
      (fun e => match e with | .inl _ => a ≠ b | .inr _ => a = b) (y := 0) ⟨0, rfl, Nat.zero_le _, fun j hj => absurd hj (Nat.not_lt_zero _)⟩ (by show ((a.length : Int) - 0).toNat < _; omega) (fun s hs => by
      obtain ⟨i, rfl, hi, hn⟩ := hs
      rw [m_slices_Equal_2_L1_eq]
      by_cases c : i < a.length
      · by_cases hv : a.getD i 0 = b.getD i 0
        · refine ⟨.inl ((i : Int) + 1), bT (dT (by omega)) (gX (by omega) (gK (by omega) (gX (by omega) (gK (by omega) (bF ?_ (gI (by omega) rfl)))))), ⟨i + 1, rfl, c, fun j hj => ?_⟩, by show ((a.length : Int) - ((i : Int) + 1)).toNat < ((a.length : Int) - (i : Int)).toNat; omega⟩
          · rw [Int.toNat_natCast, hv]; simp
          · rcases Nat.lt_succ_iff_lt_or_eq.1 hj with h | h
            · exact hn j h
            · subst h; exact hv
        · refine ⟨.inr (.inl ()), bT (dT (by omega)) (gX (by omega) (gK (by omega) (gX (by omega) (gK (by omega) (bT ?_ rfl))))), fun e => hv (by rw [e])⟩
          rw [Int.toNat_natCast]
          revert hv
          generalize a.getD i 0 = x
          generalize b.getD i 0 = y
          intro hv
          first
            | (rw [eF hv]; rfl)
            | (obtain ⟨x1, x2⟩ := x
               obtain ⟨y1, y2⟩ := y
               rw [Bool.not_eq_true', Bool.and_eq_false_iff, beq_eq_false_iff_ne, beq_eq_false_iff_ne]
               by_cases h1 : x1 = y1
               · exact .inr fun h2 => hv (by simp only [] at h2; rw [h1, h2])
               · exact .inl h1)
      · exact ⟨.inr (.inr ()), bF (dF (by omega)) rfl, getD_eq hl fun j hj => hn j (by omega)⟩)
    obtain ⟨e, he, hq⟩ := this
    rw [he, Option.bind_some]
    cases e with
    | inl x => exact congrArg some (dF hq).symm
    | inr x => exact congrArg some (dT hq).symm
  · refine bT (by rw [eF (by omega)]; rfl) (congrArg some (dF fun e => hl (by rw [e])).symm)
theorem p_Equal_1 {a b : List Int} (ha : (a.length : Int) ≤ 1000000) : m_recurrence_Equal_1 std a b = some (decide (a = b)) := by
  rw [m_recurrence_Equal_1_eq]
  exact bB (p_slices_Equal_2 ha) rfl
theorem step_e {a b : List Int} (ha : (a.length : Int) ≤ 1000000) {K : Option Bool} {z : Bool} (hK : K = some z) : (Option.bind (m_recurrence_Equal_1 std a b) fun b46 => bif !b46 then some false else K) = some (decide (a = b) && z) := by
  rw [p_Equal_1 ha, Option.bind_some, hK]
  cases decide (a = b) <;> rfl
theorem p_EqualFunc {a1 a2 a3 a4 a5 a6 a7 a8 b1 b2 b3 b4 b5 b6 b7 b8 : List Int} (h1 : (a1.length : Int) ≤ 1000000) (h2 : (a2.length : Int) ≤ 1000000) (h3 : (a3.length : Int) ≤ 1000000) (h4 : (a4.length : Int) ≤ 1000000) (h5 : (a5.length : Int) ≤ 1000000) (h6 : (a6.length : Int) ≤ 1000000) (h7 : (a7.length : Int) ≤ 1000000) (h8 : (a8.length : Int) ≤ 1000000) :
    m_slices_EqualFunc std a1 a2 a3 a4 a5 a6 a7 a8 b1 b2 b3 b4 b5 b6 b7 b8 = some (decide (a1 = b1) && (decide (a2 = b2) && (decide (a3 = b3) && (decide (a4 = b4) && (decide (a5 = b5) && (decide (a6 = b6) && (decide (a7 = b7) && (decide (a8 = b8) && true)))))))) := by
  rw [m_slices_EqualFunc_eq]
  exact step_e h1 (gI (by omega) (step_e h2 (gI (by omega) (step_e h3 (gI (by omega) (step_e h4 (gI (by omega) (step_e h5 (gI (by omega) (step_e h6 (gI (by omega) (step_e h7 (gI (by omega) (step_e h8 (gI (by omega) rfl)))))))))))))))
/-- the rules have the same canonical form -/
def canB (r s : Rec) : Bool :=
  ((r.f == s.f) && ((r.N == s.N) && ((r.c == s.c) && ((r.u == s.u) && ((r.w == s.w) && decide (ordL r.dy = ordL s.dy)))))) &&
  (decide (setL r.mo = setL s.mo) && (decide (setL r.md = setL s.md) && (decide (setL r.yd = setL s.yd) && (decide (setL r.wk = setL s.wk) && (decide (setL r.h = setL s.h) && (decide (setL r.m = setL s.m) && (decide (setL r.s = setL s.s) && (decide (setL r.ps = setL s.ps) && true))))))))
theorem step_n {c : Bool} {K : Option Bool} {z : Bool} (hK : K = some (!z)) : (bif !c then some true else K) = some (!(c && z)) := by rw [hK]; cases c <;> rfl
/-- two rules have the same canonical form -/
theorem p_Equal (r s : Rec) : m_recurrence_Equal std r.f r.N r.c r.u r.w s.f s.N s.c s.u s.w r.mo r.md r.yd r.wk r.dy r.h r.m r.s r.ps s.mo s.md s.yd s.wk s.dy s.h s.m s.s s.ps = some (vldB r && (vldB s && canB r s)) := by
  rw [m_recurrence_Equal_eq]
  cases hr : vldB r with
  | false =>
    rw [p_Canonical_bad hr, Option.bind_some]
    simp only []
    cases hs : vldB s with
    | false => rw [p_Canonical_bad hs, Option.bind_some]; exact bB (v := true) (bT rfl rfl) rfl
    | true => rw [p_Canonical hs, Option.bind_some]; exact bB (v := true) (bT rfl rfl) rfl
  | true =>
    rw [p_Canonical hr, Option.bind_some]
    simp only []
    cases hs : vldB s with
    | false => rw [p_Canonical_bad hs, Option.bind_some]; exact bB (v := true) (bF rfl (bT rfl rfl)) rfl
    | true =>
      rw [p_Canonical hs, Option.bind_some]
      simp only []
      obtain ⟨l1, l2, l3, l4, l5, l6, l7, l8, l9⟩ := lens hr
      have m1 := setL_len r.mo
      have m2 := setL_len r.md
      have m3 := setL_len r.yd
      have m4 := setL_len r.wk
      have m5 := ordL_len r.dy
      have m6 := setL_len r.h
      have m7 := setL_len r.m
      have m8 := setL_len r.s
      have m9 := setL_len r.ps
      have e1 : (Option.bind (m_slices_Equal std (ordL r.dy) (ordL s.dy)) fun b44 => (some (!b44))) = some (!decide (ordL r.dy = ordL s.dy)) := bB (p_slices_Equal (by omega)) rfl
      have e2 := p_EqualFunc (a1 := setL r.mo) (a2 := setL r.md) (a3 := setL r.yd) (a4 := setL r.wk) (a5 := setL r.h) (a6 := setL r.m) (a7 := setL r.s) (a8 := setL r.ps) (b1 := setL s.mo) (b2 := setL s.md) (b3 := setL s.yd) (b4 := setL s.wk) (b5 := setL s.h) (b6 := setL s.m) (b7 := setL s.s) (b8 := setL s.ps) (by omega) (by omega) (by omega) (by omega) (by omega) (by omega) (by omega) (by omega)
      refine bB (bF rfl (bF rfl (step_n (step_n (step_n (step_n (step_n e1))))))) ?_
      rw [e2, Option.bind_some]
      show _ = some (true && (true && canB r s))
      unfold canB
      rw [Bool.true_and, Bool.true_and]
      generalize ((r.f == s.f) && ((r.N == s.N) && ((r.c == s.c) && ((r.u == s.u) && ((r.w == s.w) && decide (ordL r.dy = ordL s.dy)))))) = x
      cases x <;> rfl

/-! lists with the same elements -/
def Ss {α : Type} (a b : List α) : Prop := ∀ x, x ∈ a ↔ x ∈ b
section
variable {α : Type} {a b : List α}
theorem Ss.all (h : Ss a b) (f : α → Bool) : a.all f = b.all f := by
  rw [Bool.eq_iff_iff, List.all_eq_true, List.all_eq_true]
  exact ⟨fun g x hx => g x ((h x).2 hx), fun g x hx => g x ((h x).1 hx)⟩
theorem Ss.any (h : Ss a b) (f : α → Bool) : a.any f = b.any f := by
  rw [Bool.eq_iff_iff, List.any_eq_true, List.any_eq_true]
  exact ⟨fun ⟨x, hx, g⟩ => ⟨x, (h x).1 hx, g⟩, fun ⟨x, hx, g⟩ => ⟨x, (h x).2 hx, g⟩⟩
theorem Ss.nil (h : Ss a b) : a = [] ↔ b = [] := by
  simp only [List.eq_nil_iff_forall_not_mem]
  exact ⟨fun g x hx => g x ((h x).2 hx), fun g x hx => g x ((h x).1 hx)⟩
theorem Ss.len0 (h : Ss a b) : (((List.length a : Nat) : Int) == 0) = (((List.length b : Nat) : Int) == 0) := by
  have := h.nil
  rw [← List.length_eq_zero_iff, ← List.length_eq_zero_iff] at this
  rw [Bool.eq_iff_iff, beq_iff_eq, beq_iff_eq]
  omega
theorem Ss.lenp (h : Ss a b) : decide (0 < ((List.length a : Nat) : Int)) = decide (0 < ((List.length b : Nat) : Int)) := by
  have := h.nil
  rw [← List.length_eq_zero_iff, ← List.length_eq_zero_iff] at this
  rw [Bool.eq_iff_iff, decide_eq_true_iff, decide_eq_true_iff]
  omega
end
theorem setL_ss {a b : List Int} (h : Ss a b) : setL a = setL b := asc_uniq (setL_ok a).1 (setL_ok b).1 fun x => ((setL_ok a).2 x).trans ((h x).trans ((setL_ok b).2 x).symm)
/-- the same elements, and not too many of them -/
structure Sl {α : Type} (a b : List α) : Prop where
  ss : Ss a b
  la : a.length ≤ 60
  lb : b.length ≤ 60
theorem Sl.lst {a b : List Int} (h : Sl a b) (low high : Int) (s : Bool) : lstB low high s a = lstB low high s b := by
  have h1 := h.la
  have h2 := h.lb
  unfold lstB
  rw [dT (show (a.length : Int) ≤ 60 by omega), dT (show (b.length : Int) ≤ 60 by omega), h.ss.all]
theorem Sl.day {a b : List (Int × Int)} (h : Sl a b) (f : Int) : dayL f a = dayL f b := by
  have h1 := h.la
  have h2 := h.lb
  unfold dayL
  rw [dT (show (a.length : Int) ≤ 60 by omega), dT (show (b.length : Int) ≤ 60 by omega), h.ss.all]
theorem Sl.num {a b : List Int} (h : Sl a b) (o : Nat) : numL o a = numL o b := by
  unfold numL
  by_cases c : a = []
  · rw [if_pos c, if_pos (h.ss.nil.1 c)]
  · rw [if_neg c, if_neg (fun g => c (h.ss.nil.2 g)), setL_ss h.ss]
theorem Sl.part {a b : List Int} (h : Sl a b) (o : Int) : partL o a = partL o b := by
  unfold partL
  by_cases c : a = []
  · rw [if_pos c, if_pos (h.ss.nil.1 c)]
  · rw [if_neg c, if_neg (fun g => c (h.ss.nil.2 g)), setL_ss h.ss]
theorem Sl.wks {a b : List Int} (h : Sl a b) (f : Int) : wksB f a = wksB f b := by unfold wksB; rw [h.ss.lenp]
structure Sim (s r : Rec) : Prop where
  f : s.f = r.f
  N : s.N = r.N
  c : s.c = r.c
  u : s.u = r.u
  w : s.w = r.w
  mo : Sl s.mo r.mo
  md : Sl s.md r.md
  yd : Sl s.yd r.yd
  wk : Sl s.wk r.wk
  dy : Sl s.dy r.dy
  ho : Sl s.h r.h
  mi : Sl s.m r.m
  se : Sl s.s r.s
  ps : Sl s.ps r.ps
section
variable {s r : Rec} (h : Sim s r)
include h
theorem Sim.vld : vldB s = vldB r := by
  unfold vldB tmsB
  rw [h.f, h.N, h.c, h.u, h.w, h.mo.lst, h.md.lst, h.yd.lst, h.wk.lst, h.ho.lst, h.mi.lst, h.se.lst, h.ps.lst, h.wk.wks, h.dy.day, h.ho.num, h.mi.num, h.se.num]
end
theorem Sim.same {s r : Rec} (h : Sim s r) : canB r s = true := by
  unfold canB
  have o : ordL r.dy = ordL s.dy := or_uniq (ordL_ok _).1 (ordL_ok _).1 fun x => ((ordL_ok _).2 x).trans ((h.dy.ss x).symm.trans ((ordL_ok _).2 x).symm)
  rw [h.f, h.N, h.c, h.u, h.w, o, setL_ss h.mo.ss, setL_ss h.md.ss, setL_ss h.yd.ss, setL_ss h.wk.ss, setL_ss h.ho.ss, setL_ss h.mi.ss, setL_ss h.se.ss, setL_ss h.ps.ss]
  simp

/-! the reference: the same rule -/
theorem p_ref29_same {a b : List Int} (ha : (a.length : Int) ≤ 1000000) : m_ref29_same std a b = some (decide (a = b)) := by
  rw [m_ref29_same_eq]
  by_cases hl : a.length = b.length
  · refine bF (by rw [eT (by omega)]; rfl) ?_
    have := loop_is (B := m_ref29_same_L1 std a b) (fun s => ∃ i : Nat, s = (i : Int) ∧ i ≤ a.length ∧ ∀ j, j < i → a.getD j 0 = b.getD j 0) (fun s => ((a.length : Int) - s).toNat)
      (fun e => match e with | .inl _ => a ≠ b | .inr _ => a = b) (y := 0) ⟨0, rfl, Nat.zero_le _, fun j hj => absurd hj (Nat.not_lt_zero _)⟩ (by show ((a.length : Int) - 0).toNat < _; omega) (fun s hs => by
      obtain ⟨i, rfl, hi, hn⟩ := hs
      rw [m_ref29_same_L1_eq]
      by_cases c : i < a.length
      · by_cases hv : a.getD i 0 = b.getD i 0
        · refine ⟨.inl ((i : Int) + 1), bT (dT (by omega)) (gX (by omega) (gK (by omega) (gX (by omega) (gK (by omega) (bF ?_ (gI (by omega) rfl)))))), ⟨i + 1, rfl, c, fun j hj => ?_⟩, by show ((a.length : Int) - ((i : Int) + 1)).toNat < ((a.length : Int) - (i : Int)).toNat; omega⟩
          · rw [Int.toNat_natCast, hv]; simp
          · rcases Nat.lt_succ_iff_lt_or_eq.1 hj with h | h
            · exact hn j h
            · subst h; exact hv
        · refine ⟨.inr (.inl ()), bT (dT (by omega)) (gX (by omega) (gK (by omega) (gX (by omega) (gK (by omega) (bT ?_ rfl))))), fun e => hv (by rw [e])⟩
          rw [Int.toNat_natCast]
          revert hv
          generalize a.getD i 0 = x
          generalize b.getD i 0 = y
          intro hv
          first
            | (rw [eF hv]; rfl)
            | (obtain ⟨x1, x2⟩ := x
               obtain ⟨y1, y2⟩ := y
               rw [Bool.not_eq_true', Bool.and_eq_false_iff, beq_eq_false_iff_ne, beq_eq_false_iff_ne]
               by_cases h1 : x1 = y1
               · exact .inr fun h2 => hv (by simp only [] at h2; rw [h1, h2])
               · exact .inl h1)
      · exact ⟨.inr (.inr ()), bF (dF (by omega)) rfl, getD_eq hl fun j hj => hn j (by omega)⟩)
    obtain ⟨e, he, hq⟩ := this
    rw [he, Option.bind_some]
    cases e with
    | inl x => exact congrArg some (dF hq).symm
    | inr x => exact congrArg some (dT hq).symm
  · refine bT (by rw [eF (by omega)]; rfl) (congrArg some (dF fun e => hl (by rw [e])).symm)
theorem ref_Same_L1 {a b : List (Int × Int)} (ha : (a.length : Int) ≤ 1000000) (hl : a.length = b.length) : ∃ e, loop (m_ref29_Same_L1 std a b) 0 = some e ∧ match e with | .inl _ => a ≠ b | .inr _ => a = b := by
  refine loop_is (B := m_ref29_Same_L1 std a b) (fun s => ∃ i : Nat, s = (i : Int) ∧ i ≤ a.length ∧ ∀ j, j < i → a.getD j (0, 0) = b.getD j (0, 0)) (fun s => ((a.length : Int) - s).toNat)
    (fun e => match e with | .inl _ => a ≠ b | .inr _ => a = b) (y := 0) ⟨0, rfl, Nat.zero_le _, fun j hj => absurd hj (Nat.not_lt_zero _)⟩ (by show ((a.length : Int) - 0).toNat < _; omega) (fun s hs => ?_)
  obtain ⟨i, rfl, hi, hn⟩ := hs
  rw [m_ref29_Same_L1_eq]
  by_cases c : i < a.length
  · by_cases hv : a.getD i (0, 0) = b.getD i (0, 0)
    · refine ⟨.inl ((i : Int) + 1), bT (dT (by omega)) (gX (by omega) (gK (by omega) (gX (by omega) (gK (by omega) (bF ?_ (gI (by omega) rfl)))))), ⟨i + 1, rfl, c, fun j hj => ?_⟩, by show ((a.length : Int) - ((i : Int) + 1)).toNat < ((a.length : Int) - (i : Int)).toNat; omega⟩
      · rw [Int.toNat_natCast, hv]; simp
      · rcases Nat.lt_succ_iff_lt_or_eq.1 hj with h | h
        · exact hn j h
        · subst h; exact hv
    · refine ⟨.inr (.inl ()), bT (dT (by omega)) (gX (by omega) (gK (by omega) (gX (by omega) (gK (by omega) (bT ?_ rfl))))), fun e => hv (by rw [e])⟩
      rw [Int.toNat_natCast]
      revert hv
      generalize a.getD i (0, 0) = x
      generalize b.getD i (0, 0) = y
      intro hv
      obtain ⟨x1, x2⟩ := x
      obtain ⟨y1, y2⟩ := y
      rw [Bool.not_eq_true', Bool.and_eq_false_iff, beq_eq_false_iff_ne, beq_eq_false_iff_ne]
      by_cases h1 : x1 = y1
      · exact .inr fun h2 => hv (by simp only [] at h2; rw [h1, h2])
      · exact .inl h1
  · exact ⟨.inr (.inr ()), bF (dF (by omega)) rfl, getD_eq hl fun j hj => hn j (by omega)⟩
def samB (r s : Rec) : Bool :=
  ((r.f == s.f) && ((r.N == s.N) && ((r.c == s.c) && ((r.u == s.u) && ((r.w == s.w) && decide (r.dy = s.dy)))))) &&
  (decide (r.mo = s.mo) && (decide (r.md = s.md) && (decide (r.yd = s.yd) && (decide (r.wk = s.wk) && (decide (r.h = s.h) && (decide (r.m = s.m) && (decide (r.s = s.s) && (decide (r.ps = s.ps) && true))))))))
theorem step_s {a b : List Int} (ha : (a.length : Int) ≤ 60) {K : Option Bool} {z : Bool} (hK : K = some z) : (Option.bind (m_ref29_same std a b) fun b46 => bif b46 then K else some false) = some (decide (a = b) && z) := by
  rw [p_ref29_same (by omega), Option.bind_some, hK]
  cases decide (a = b) <;> rfl
theorem p_Same (r s : Rec) (h : Lens r) : m_ref29_Same std r.f r.N r.c r.u r.w s.f s.N s.c s.u s.w r.mo r.md r.yd r.wk r.dy r.h r.m r.s r.ps s.mo s.md s.yd s.wk s.dy s.h s.m s.s s.ps = some (samB r s) := by
  rw [m_ref29_Same_eq]
  obtain ⟨l1, l2, l3, l4, l5, l6, l7, l8, l9⟩ := h
  have t : (Option.bind (m_ref29_same std r.ps s.ps) fun b61 => some b61) = some (decide (r.ps = s.ps) && true) := bB (p_ref29_same (by omega)) (by rw [Bool.and_true])
  have T := step_s (b := s.mo) l1 (step_s (b := s.md) l2 (step_s (b := s.yd) l3 (step_s (b := s.wk) l4 (step_s (b := s.h) l6 (step_s (b := s.m) l7 (step_s (b := s.s) l8 t))))))
  refine bB (step_n (step_n (step_n (step_n (step_n (z := (((List.length r.dy : Nat) : Int) == ((List.length s.dy : Nat) : Int))) rfl))))) ?_
  unfold samB
  by_cases hl : r.dy.length = s.dy.length
  · obtain ⟨e, he, hq⟩ := ref_Same_L1 (a := r.dy) (b := s.dy) (by omega) hl
    rw [he, eT (show ((List.length r.dy : Nat) : Int) = ((List.length s.dy : Nat) : Int) by omega)]
    cases e with
    | inl x =>
      rw [dF hq]
      cases (r.f == s.f) <;> cases (r.N == s.N) <;> cases (r.c == s.c) <;> cases (r.u == s.u) <;> cases (r.w == s.w) <;> rfl
    | inr x =>
      rw [dT hq]
      generalize ((r.f == s.f) && ((r.N == s.N) && ((r.c == s.c) && ((r.u == s.u) && ((r.w == s.w) && true))))) = x
      cases x
      · rfl
      · exact bF rfl (bB rfl (bB T rfl))
  · rw [dF (show ¬ r.dy = s.dy from fun e => hl (by rw [e])), eF (show ((List.length r.dy : Nat) : Int) ≠ ((List.length s.dy : Nat) : Int) by omega)]
    cases (r.f == s.f) <;> cases (r.N == s.N) <;> cases (r.c == s.c) <;> cases (r.u == s.u) <;> cases (r.w == s.w) <;> rfl

/-! the reference: days in order, by keys -/
def okey (x : Int × Int) : Int := 200 * x.2 + x.1 + 100
def unkey (k : Int) : Int × Int := (Int.tmod k 200 - 100, Int.tdiv k 200)
def Oin (x : Int × Int) : Prop := 1 ≤ x.2 ∧ x.2 ≤ 7 ∧ -53 ≤ x.1 ∧ x.1 ≤ 53
theorem un_key {x : Int × Int} (h : Oin x) : unkey (okey x) = x := by
  unfold Oin at h
  unfold unkey okey
  have t1 : Int.tdiv (200 * x.2 + x.1 + 100) 200 = (200 * x.2 + x.1 + 100) / 200 := Int.tdiv_eq_ediv_of_nonneg (by omega)
  have t2 : Int.tmod (200 * x.2 + x.1 + 100) 200 = (200 * x.2 + x.1 + 100) % 200 := Int.tmod_eq_emod_of_nonneg (by omega)
  rw [t1, t2]
  obtain ⟨x1, x2⟩ := x
  simp only [] at h ⊢
  rw [Prod.mk.injEq]
  omega
theorem key_lt {x y : Int × Int} (h : Oin x) (g : Oin y) (hk : okey x < okey y) : OrLt x y := by
  unfold Oin at h g
  unfold okey at hk
  unfold OrLt
  omega
theorem ord_L1 {l : List (Int × Int)} (hl : (l.length : Int) ≤ 100) (hv : ∀ x ∈ l, Oin x) : loop (m_ref29_Ordinals_L1 std l) (0, []) = some (l.map okey) := by
  refine loop_up (B := m_ref29_Ordinals_L1 std l) (n := l.length) (fun i => (l.take i).map okey) (by omega) (fun i hi => ?_) ?_
  · have hx : Oin (l.getD i (0, 0)) := hv _ (by rw [List.getD_eq_getElem?_getD, List.getElem?_eq_getElem hi]; exact List.getElem_mem _)
    have e : (l.take (i + 1)).map okey = (l.take i).map okey ++ [okey (l.getD i (0, 0))] := by
      rw [List.take_add_one, List.getElem?_eq_getElem hi, List.map_append, List.getD_eq_getElem?_getD, List.getElem?_eq_getElem hi]; rfl
    rw [m_ref29_Ordinals_L1_eq, e]
    have hlen : ((l.take i).map okey).length ≤ 1000 := by rw [List.length_map, List.length_take]; omega
    refine bT (dT (by omega)) (gX (by omega) (gK (by omega) ?_))
    rw [Int.toNat_natCast]
    unfold Oin at hx
    exact gI (by omega) (gI (by omega) (gI (by omega) (gR (by omega) (gR (by simp) (gI (by omega) rfl)))))
  · rw [m_ref29_Ordinals_L1_eq, List.take_length]
    exact bF (dF (by omega)) rfl
theorem ord_L2 {k : List Int} (hl : (k.length : Int) ≤ 100) (hv : ∀ x ∈ k, 0 ≤ x ∧ x ≤ 100000) : loop (m_ref29_Ordinals_L2 std k) (0, []) = some (k.map unkey) := by
  refine loop_up (B := m_ref29_Ordinals_L2 std k) (n := k.length) (fun i => (k.take i).map unkey) (by omega) (fun i hi => ?_) ?_
  · have hx := hv (k.getD i 0) (getD_mem hi)
    have e : (k.take (i + 1)).map unkey = (k.take i).map unkey ++ [unkey (k.getD i 0)] := by
      rw [List.take_add_one, List.getElem?_eq_getElem hi, List.map_append, List.getD_eq_getElem?_getD, List.getElem?_eq_getElem hi]; rfl
    rw [m_ref29_Ordinals_L2_eq, e]
    have hlen : ((k.take i).map unkey).length ≤ 1000 := by rw [List.length_map, List.length_take]; omega
    refine bT (dT (by omega)) (gX (by omega) (gK (by omega) ?_))
    rw [Int.toNat_natCast]
    have t1 : Int.tdiv (k.getD i 0) 200 = k.getD i 0 / 200 := Int.tdiv_eq_ediv_of_nonneg (by omega)
    have t2 : Int.tmod (k.getD i 0) 200 = k.getD i 0 % 200 := Int.tmod_eq_emod_of_nonneg (by omega)
    exact gZ (by omega) (gI (by rw [t2]; omega) (gI (by rw [t1]; omega) (gR (by omega) (gR (by simp) (gI (by omega) rfl)))))
  · rw [m_ref29_Ordinals_L2_eq, List.take_length]
    exact bF (dF (by omega)) rfl
theorem p_Ordinals {l : List (Int × Int)} (hl : (l.length : Int) ≤ 60) (hv : ∀ x ∈ l, Oin x) : m_ref29_Ordinals std l = some (ordL l) := by
  rw [m_ref29_Ordinals_eq]
  have hm : ∀ k, k ∈ setL (l.map okey) → ∃ x, x ∈ l ∧ okey x = k := fun k hk => by
    obtain ⟨x, hx, e⟩ := List.mem_map.1 (((setL_ok _).2 k).1 hk)
    exact ⟨x, hx, e⟩
  have hlen := setL_len (l.map okey)
  rw [List.length_map] at hlen
  refine bB (ord_L1 (by omega) hv) (bB (p_ref29_Set (by rw [List.length_map]; omega)) (bB (ord_L2 (by omega) fun k hk => ?_) (congrArg some (or_uniq ?_ (ordL_ok l).1 fun x => ?_))))
  · obtain ⟨x, hx, rfl⟩ := hm k hk
    have := hv x hx
    unfold Oin at this
    unfold okey
    omega
  · refine List.pairwise_map.2 ((setL_ok (l.map okey)).1.imp_of_mem fun {k k'} hk hk' hlt => ?_)
    obtain ⟨x, hx, rfl⟩ := hm k hk
    obtain ⟨y, hy, rfl⟩ := hm k' hk'
    rw [un_key (hv x hx), un_key (hv y hy)]
    exact key_lt (hv x hx) (hv y hy) hlt
  · rw [List.mem_map, (ordL_ok l).2]
    constructor
    · rintro ⟨k, hk, rfl⟩
      obtain ⟨y, hy, rfl⟩ := hm k hk
      rw [un_key (hv y hy)]; exact hy
    · intro hx
      exact ⟨okey x, ((setL_ok _).2 _).2 (List.mem_map.2 ⟨x, hx, rfl⟩), un_key (hv x hx)⟩
theorem days_in {r : Rec} (h : vldB r = true) : ∀ x ∈ r.dy, Oin x := by
  unfold vldB at h
  simp only [Bool.and_eq_true] at h
  have b6 := h.2.2.2.2.2.2.2.2.2.2.2.2.2.2.1
  unfold dayL at b6
  rw [Bool.and_eq_true, List.all_eq_true] at b6
  intro x hx
  have := b6.2 x hx
  unfold ordB at this
  have := of_decide_eq_true this
  unfold Oin
  omega
theorem p_ref29_Canonical {r : Rec} (h : vldB r = true) : m_ref29_Canonical std r.f r.N r.c r.u r.w r.mo r.md r.yd r.wk r.dy r.h r.m r.s r.ps = some (r.f, r.N, r.c, r.u, setL r.mo, setL r.md, setL r.yd, setL r.wk, ordL r.dy, setL r.h, setL r.m, setL r.s, setL r.ps, r.w) := by
  obtain ⟨l1, l2, l3, l4, l5, l6, l7, l8, l9⟩ := lens h
  rw [m_ref29_Canonical_eq]
  exact bB (p_ref29_Set (by omega)) (bB (p_ref29_Set (by omega)) (bB (p_ref29_Set (by omega)) (bB (p_ref29_Set (by omega)) (bB (p_ref29_Set (by omega)) (bB (p_ref29_Set (by omega)) (bB (p_ref29_Set (by omega)) (bB (p_ref29_Set (by omega)) (bB (p_Ordinals (by omega) (days_in h)) rfl))))))))
/-- the canonical rule -/
def can (r : Rec) : Rec := ⟨r.f, r.N, r.c, r.u, r.w, setL r.mo, setL r.md, setL r.yd, setL r.wk, ordL r.dy, setL r.h, setL r.m, setL r.s, setL r.ps⟩
theorem can_lens {r : Rec} (h : vldB r = true) : Lens (can r) := by
  obtain ⟨l1, l2, l3, l4, l5, l6, l7, l8, l9⟩ := lens h
  have m1 := setL_len r.mo
  have m2 := setL_len r.md
  have m3 := setL_len r.yd
  have m4 := setL_len r.wk
  have m5 := ordL_len r.dy
  have m6 := setL_len r.h
  have m7 := setL_len r.m
  have m8 := setL_len r.s
  have m9 := setL_len r.ps
  exact ⟨by show ((setL r.mo).length : Int) ≤ 60; omega, by show ((setL r.md).length : Int) ≤ 60; omega, by show ((setL r.yd).length : Int) ≤ 60; omega, by show ((setL r.wk).length : Int) ≤ 60; omega, by show ((ordL r.dy).length : Int) ≤ 60; omega, by show ((setL r.h).length : Int) ≤ 60; omega, by show ((setL r.m).length : Int) ≤ 60; omega, by show ((setL r.s).length : Int) ≤ 60; omega, by show ((setL r.ps).length : Int) ≤ 60; omega⟩
theorem can_sim {r : Rec} (h : vldB r = true) : Sim (can r) r := by
  obtain ⟨l1, l2, l3, l4, l5, l6, l7, l8, l9⟩ := lens h
  have key : ∀ l : List Int, (l.length : Int) ≤ 60 → Sl (setL l) l := fun l hl => ⟨(setL_ok l).2, by have := setL_len l; omega, by omega⟩
  exact ⟨rfl, rfl, rfl, rfl, rfl, key _ l1, key _ l2, key _ l3, key _ l4, ⟨(ordL_ok _).2, by have := ordL_len r.dy; show (ordL r.dy).length ≤ 60; omega, by omega⟩, key _ l6, key _ l7, key _ l8, key _ l9⟩
theorem sam_can (r s : Rec) : samB (can r) (can s) = canB r s := rfl
theorem sam_refl (r : Rec) : samB r r = true := by simp [samB]
theorem p_Endless (r : Rec) : m_recurrence_Endless std r.f r.N r.c r.u r.w r.mo r.md r.yd r.wk r.dy r.h r.m r.s r.ps = some (vldB r && ((r.c == 0) && (r.u == 0))) := by
  rw [m_recurrence_Endless_eq]
  refine bB (bB (p_Valid r) ?_) rfl
  cases vldB r <;> cases (r.c == 0) <;> rfl
theorem q_awake : m_law29_awake std = some true := by kernel_rfl
theorem p_long (r : Rec) : ∃ b, m_law29_long std r.f r.N r.c r.u r.w r.mo r.md r.yd r.wk r.dy r.h r.m r.s r.ps = some b := by
  rw [m_law29_long_eq]
  cases decide (100 < (((List.length r.mo) : Nat) : Int)) with | true => exact ⟨_, rfl⟩ | false =>
  cases decide (100 < (((List.length r.md) : Nat) : Int)) with | true => exact ⟨_, rfl⟩ | false =>
  cases decide (100 < (((List.length r.yd) : Nat) : Int)) with | true => exact ⟨_, rfl⟩ | false =>
  cases decide (100 < (((List.length r.wk) : Nat) : Int)) with | true => exact ⟨_, rfl⟩ | false =>
  cases decide (100 < (((List.length r.dy) : Nat) : Int)) with | true => exact ⟨_, rfl⟩ | false =>
  cases decide (100 < (((List.length r.h) : Nat) : Int)) with | true => exact ⟨_, rfl⟩ | false =>
  cases decide (100 < (((List.length r.m) : Nat) : Int)) with | true => exact ⟨_, rfl⟩ | false =>
  cases decide (100 < (((List.length r.s) : Nat) : Int)) with | true => exact ⟨_, rfl⟩ | false => exact ⟨_, rfl⟩

theorem pl_RecurrenceForms (a b : Rec) : m_law29_RecurrenceForms std a.f a.N a.c a.u a.w b.f b.N b.c b.u b.w a.mo a.md a.yd a.wk a.dy a.h a.m a.s a.ps b.mo b.md b.yd b.wk b.dy b.h b.m b.s b.ps = some true := by
  rw [m_law29_RecurrenceForms_eq]
  obtain ⟨la, hla⟩ := p_long a
  obtain ⟨lb, hlb⟩ := p_long b
  cases la with
  | true => exact bB (v := true) (bB q_awake (bF rfl (bB hla (bT rfl rfl)))) (bT rfl (bB q_awake rfl))
  | false =>
  refine bB (v := lb) (bB q_awake (bF rfl (bB hla (bF rfl (bB hlb rfl))))) ?_
  cases lb with
  | true => exact bT rfl (bB q_awake rfl)
  | false =>
  refine bF rfl ?_
  cases ha : vldB a with
  | false =>
    refine bB (p_Canonical_bad ha) (bB (p_ref29_Valid a) ?_)
    rw [ha]
    refine bT rfl (bB (v := true) (bB (p_Valid a) ?_) rfl)
    rw [ha]
    have e1 := p_Same ⟨0, 0, 0, 0, 0, [], [], [], [], [], [], [], [], []⟩ ⟨0, 0, 0, 0, 0, [], [], [], [], [], [], [], [], []⟩ ⟨by decide, by decide, by decide, by decide, by decide, by decide, by decide, by decide, by decide⟩
    have e2 := p_Equal a b
    have e3 := p_Endless a
    rw [ha, Bool.false_and] at e2 e3
    exact bT rfl (bT rfl (bB e1 (bT rfl (bB e2 (bT rfl (bB e3 rfl))))))
  | true =>
    refine bB (p_Canonical ha) (bB (p_ref29_Valid a) ?_)
    rw [ha]
    refine bF rfl ?_
    have e1 := p_Same (can a) (can a) (can_lens ha)
    rw [sam_refl] at e1
    have e2 := p_Equal a (can a)
    rw [ha, (can_sim ha).vld, ha, (can_sim ha).same] at e2
    have e3 := p_Endless a
    rw [ha, Bool.true_and] at e3
    refine bB (v := false) (bB (p_Valid a) ?_) (bF rfl ?_)
    · rw [ha]
      refine bF rfl (bF rfl (bB (p_ref29_Canonical ha) (bB e1 (bF rfl (bB e2 (bF rfl (bB e3 ?_)))))))
      cases (a.c == 0) <;> cases (a.u == 0) <;> rfl
    · refine bB (v := true) (bB (p_Equal a b) (bB (p_ref29_Valid b) ?_)) rfl
      rw [ha, Bool.true_and]
      cases hb : vldB b with
      | false => exact bF rfl rfl
      | true =>
        have e4 := p_Same (can a) (can b) (can_lens ha)
        rw [sam_can] at e4
        refine bT rfl (bB (p_ref29_Canonical ha) (bB (p_ref29_Canonical hb) (bB e4 ?_)))
        rw [Bool.true_and, beq_self_eq_true]
end Go.Proofs.YtmnhfaaaaejpaaaGreat.R
