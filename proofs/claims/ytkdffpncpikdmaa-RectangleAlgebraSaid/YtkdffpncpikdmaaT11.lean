/-
  Rectangles: the laws of sets.
-/
import Derived.Test.YtkdffpncpikdmaaT10
namespace Go.Proofs.Ytkdffpncpikdmaa
open Go.RowKit

/-- true, or something failed -/
def TT (k : Option (Bool × Bool)) : Prop := ∃ o f, k = some (o, f) ∧ (o || f) = true
theorem TT.bind {α : Type} {x : Option α} {f : α → Option (Bool × Bool)} {v : α} (h : x = some v) (t : TT (f v)) : TT (Option.bind x f) := by
  obtain ⟨o, g, h1, h2⟩ := t
  exact ⟨o, g, by rw [h]; exact h1, h2⟩
theorem TT.eq {b x : Bool} {r : Option (Bool × Bool)} (h : x = false → b = true) (t : TT r) : TT (bif b then r else some (false, x)) := by
  cases hb : b with
  | true => exact t
  | false =>
    cases hx : x with
    | true => exact ⟨false, true, rfl, rfl⟩
    | false => rw [h hx] at hb; cases hb
theorem flag_is (x : Bool) (n : Int) : (bif x then (some true) else (some (!(n == 0))) : Option Bool) = some (x || !(n == 0)) := by cases x <;> rfl
theorem st_op {rule : Bool → Bool → Bool} (hr : IsRule rule) {F : List Rc → List Rc → Option (List Rc × Int)} (hF : ∀ p q, p.length ≤ 100000 → q.length ≤ 100000 → F p q = some (resC rule p q)) {p q : List Rc} {P Q : Int → Int → Bool} {x : Bool} (hp : p.length ≤ 500) (hq : q.length ≤ 500) (gp : x = false → GdL p P) (gq : x = false → GdL q Q) :
    ∃ c e, F p q = some (c, e) ∧ c.length ≤ 500 ∧ ((x || !(e == 0)) = false → GdL c (fun a t => rule (P a t) (Q a t))) := by
  obtain ⟨c, e, w, n, _⟩ := res_ex rule p q
  refine ⟨c, e, (hF p q (by omega) (by omega)).trans (congrArg some w), n, fun h => ?_⟩
  obtain ⟨h1, h2⟩ := Bool.or_eq_false_iff.1 h
  exact op_good hr (gp h1) (gq h1) w (by simpa using h2)
theorem st_eq {p q : List Rc} {P Q : Int → Int → Bool} {x : Bool} (hp : p.length ≤ 500) (hq : q.length ≤ 500) (gp : x = false → GdL p P) (gq : x = false → GdL q Q) (h : ∀ a t, P a t = Q a t) : ∃ b, m_rectangle_Equal std p q = some b ∧ (x = false → b = true) := by
  refine ⟨_, p_Equal p q (by omega) (by omega), fun hx => ?_⟩
  have h1 := equal_good (gp hx) (gq hx) h
  rw [p_Equal p q (by omega) (by omega)] at h1
  injection h1
theorem wk {x : Bool} {n : Int} {A : Prop} (h : x = false → A) : (x || !(n == 0)) = false → A := fun hh => h (Bool.or_eq_false_iff.1 hh).1
theorem good_nil {c : List Rc} {P : Int → Int → Bool} (h : GdL c P) (hp : ∀ x t, P x t = false) : c = [] := by
  cases c with
  | nil => rfl
  | cons r c =>
    exfalso
    have hr := lvB_iff.1 h.v r (by simp)
    have := h.q r.1 r.2.2.1
    rw [hp] at this
    unfold inL inR at this
    rw [List.any_cons] at this
    have h2 : (decide (r.1 ≤ r.1) && decide (r.1 < r.2.1) && decide (r.2.2.1 ≤ r.2.2.1) && decide (r.2.2.1 < r.2.2.2)) = true := by simp; omega
    rw [h2] at this
    cases this
theorem pl_RectangleAlgebra (a b c : List Rc) : m_law35_RectangleAlgebra std a b c = some true := by
  rw [m_law35_RectangleAlgebra_eq]
  refine bB p_awake (bF rfl ?_)
  by_cases h : a.length ≤ 10 ∧ b.length ≤ 10 ∧ c.length ≤ 10 ∧ lvB a = true ∧ lvB b = true ∧ lvB c = true
  · obtain ⟨la, lb, lc, va, vb, vc⟩ := h
    refine bB (v := false) (bF (dF (by omega)) (bF (dF (by omega)) (bF (dF (by omega)) (bB (p_ref35_List a (by omega)) (bF (by rw [va]; rfl) (bB (p_ref35_List b (by omega)) (bF (by rw [vb]; rfl) (bB (p_ref35_List c (by omega)) (by rw [vc]; rfl))))))))) (bF rfl ?_)
    have ga : ∀ {x : Bool}, x = false → GdL a (inL a) := fun _ => GdL.self va (by omega)
    have gb : ∀ {x : Bool}, x = false → GdL b (inL b) := fun _ => GdL.self vb (by omega)
    have gc : ∀ {x : Bool}, x = false → GdL c (inL c) := fun _ => GdL.self vc (by omega)
    obtain ⟨d, e1, w1, n1, g1⟩ := st_op .sub p_Minus (p := a) (q := b) (x := false) (by omega) (by omega) ga gb
    obtain ⟨m, e2, w2, n2, g2'⟩ := st_op .and p_Meet (p := a) (q := b) (x := (false || !(e1 == 0))) (by omega) (by omega) ga gb
    have g1 := wk (n := e2) g1
    refine bB w1 (bB w2 (bB (v := ((false || !(e1 == 0)) || !(e2 == 0))) (by cases (e1 == 0) <;> rfl) ?_))
    obtain ⟨x1, hx1⟩ : ∃ x, ((false || !(e1 == 0)) || !(e2 == 0)) = x := ⟨_, rfl⟩
    rw [hx1] at g1 g2' ⊢
    have fin : ∀ {k : Option (Bool × Bool)}, TT k → (Option.bind k fun (ok7, x330) => Option.bind (bif ok7 then (some true) else (some x330) : Option Bool) fun x332 => (some x332)) = some true := fun {k} ht => by
      obtain ⟨o, f, rfl, hof⟩ := ht
      cases o <;> cases f <;> first | rfl | cases hof
    refine fin ?_
    obtain ⟨l3, e3, w3, n3, g3⟩ := st_op .sub p_Minus (p := a) (q := d) (x := x1) (by omega) n1 ga g1
    refine TT.bind w3 (TT.bind (flag_is x1 e3) ?_)
    have g1 := wk (n := e3) g1; have g2 := wk (n := e3) g2'
    obtain ⟨x2, hx2⟩ : ∃ x, (x1 || !(e3 == 0)) = x := ⟨_, rfl⟩
    rw [hx2] at g1 g2 g3 ⊢
    obtain ⟨q1, k1, k1'⟩ := st_eq n3 n2 g3 g2 (fun u t => by unfold rSub rAnd; cases inL a u t <;> cases inL b u t <;> rfl)
    refine TT.bind k1 (TT.eq k1' ?_)
    obtain ⟨l4, e4, w4, n4, g4⟩ := st_op .or p_Union n1 n2 g1 g2
    refine TT.bind w4 (TT.bind (flag_is x2 e4) ?_)
    have g1 := wk (n := e4) g1; have g2 := wk (n := e4) g2
    obtain ⟨x3, hx3⟩ : ∃ x, (x2 || !(e4 == 0)) = x := ⟨_, rfl⟩
    rw [hx3] at g1 g2 g4 ⊢
    obtain ⟨q2, k2, k2'⟩ := st_eq n4 (show a.length ≤ 500 by omega) g4 ga (fun u t => by unfold rSub rAnd rOr; cases inL a u t <;> cases inL b u t <;> rfl)
    refine TT.bind k2 (TT.eq k2' ?_)
    obtain ⟨l5, e5, w5, n5, g5⟩ := st_op .or p_Union (p := a) (q := b) (x := x3) (by omega) (by omega) ga gb
    refine TT.bind w5 (TT.bind (flag_is x3 e5) ?_)
    have g1 := wk (n := e5) g1; have g2 := wk (n := e5) g2
    obtain ⟨x4, hx4⟩ : ∃ x, (x3 || !(e5 == 0)) = x := ⟨_, rfl⟩
    rw [hx4] at g1 g2 g5 ⊢
    obtain ⟨l6, e6, w6, n6, g6⟩ := st_op .or p_Union (p := b) (q := a) (x := x4) (by omega) (by omega) gb ga
    refine TT.bind w6 (TT.bind (flag_is x4 e6) ?_)
    have g1 := wk (n := e6) g1; have g2 := wk (n := e6) g2; have g5 := wk (n := e6) g5
    obtain ⟨x5, hx5⟩ : ∃ x, (x4 || !(e6 == 0)) = x := ⟨_, rfl⟩
    rw [hx5] at g1 g2 g5 g6 ⊢
    obtain ⟨q3, k3, k3'⟩ := st_eq n5 n6 g5 g6 (fun u t => by unfold rOr; cases inL a u t <;> cases inL b u t <;> rfl)
    refine TT.bind k3 (TT.eq k3' ?_)
    obtain ⟨l7, e7, w7, n7, g7⟩ := st_op .and p_Meet (p := b) (q := a) (x := x5) (by omega) (by omega) gb ga
    refine TT.bind w7 (TT.bind (flag_is x5 e7) ?_)
    have g1 := wk (n := e7) g1; have g2 := wk (n := e7) g2
    obtain ⟨x6, hx6⟩ : ∃ x, (x5 || !(e7 == 0)) = x := ⟨_, rfl⟩
    rw [hx6] at g1 g2 g7 ⊢
    obtain ⟨q4, k4, k4'⟩ := st_eq n2 n7 g2 g7 (fun u t => by unfold rAnd; cases inL a u t <;> cases inL b u t <;> rfl)
    refine TT.bind k4 (TT.eq k4' ?_)
    obtain ⟨l8, e8, w8, n8, g8⟩ := st_op .or p_Union (p := b) (q := c) (x := x6) (by omega) (by omega) gb gc
    refine TT.bind w8 (TT.bind (flag_is x6 e8) ?_)
    have g1 := wk (n := e8) g1; have g2 := wk (n := e8) g2
    obtain ⟨x7, hx7⟩ : ∃ x, (x6 || !(e8 == 0)) = x := ⟨_, rfl⟩
    rw [hx7] at g1 g2 g8 ⊢
    obtain ⟨l9, e9, w9, n9, g9⟩ := st_op .and p_Meet (p := a) (q := l8) (x := x7) (by omega) n8 ga g8
    refine TT.bind w9 (TT.bind (flag_is x7 e9) ?_)
    have g1 := wk (n := e9) g1; have g2 := wk (n := e9) g2
    obtain ⟨x8, hx8⟩ : ∃ x, (x7 || !(e9 == 0)) = x := ⟨_, rfl⟩
    rw [hx8] at g1 g2 g9 ⊢
    obtain ⟨l10, e10, w10, n10, g10⟩ := st_op .and p_Meet (p := a) (q := c) (x := x8) (by omega) (by omega) ga gc
    refine TT.bind w10 (TT.bind (flag_is x8 e10) ?_)
    have g1 := wk (n := e10) g1; have g2 := wk (n := e10) g2; have g9 := wk (n := e10) g9
    obtain ⟨x9, hx9⟩ : ∃ x, (x8 || !(e10 == 0)) = x := ⟨_, rfl⟩
    rw [hx9] at g1 g2 g9 g10 ⊢
    obtain ⟨l11, e11, w11, n11, g11⟩ := st_op .or p_Union n2 n10 g2 g10
    refine TT.bind w11 (TT.bind (flag_is x9 e11) ?_)
    have g1 := wk (n := e11) g1; have g9 := wk (n := e11) g9
    obtain ⟨x10, hx10⟩ : ∃ x, (x9 || !(e11 == 0)) = x := ⟨_, rfl⟩
    rw [hx10] at g1 g9 g11 ⊢
    obtain ⟨q5, k5, k5'⟩ := st_eq n9 n11 g9 g11 (fun u t => by unfold rAnd rOr; cases inL a u t <;> cases inL b u t <;> cases inL c u t <;> rfl)
    refine TT.bind k5 (TT.eq k5' ?_)
    obtain ⟨l12, e12, w12, n12, g12⟩ := st_op .or p_Union (p := b) (q := c) (x := x10) (by omega) (by omega) gb gc
    refine TT.bind w12 (TT.bind (flag_is x10 e12) ?_)
    have g1 := wk (n := e12) g1
    obtain ⟨x11, hx11⟩ : ∃ x, (x10 || !(e12 == 0)) = x := ⟨_, rfl⟩
    rw [hx11] at g1 g12 ⊢
    obtain ⟨l13, e13, w13, n13, g13⟩ := st_op .sub p_Minus (p := a) (q := l12) (x := x11) (by omega) n12 ga g12
    refine TT.bind w13 (TT.bind (flag_is x11 e13) ?_)
    have g1 := wk (n := e13) g1
    obtain ⟨x12, hx12⟩ : ∃ x, (x11 || !(e13 == 0)) = x := ⟨_, rfl⟩
    rw [hx12] at g1 g13 ⊢
    obtain ⟨l14, e14, w14, n14, g14⟩ := st_op .sub p_Minus (p := d) (q := c) (x := x12) n1 (by omega) g1 gc
    refine TT.bind w14 (TT.bind (flag_is x12 e14) ?_)
    have g1 := wk (n := e14) g1; have g13 := wk (n := e14) g13
    obtain ⟨x13, hx13⟩ : ∃ x, (x12 || !(e14 == 0)) = x := ⟨_, rfl⟩
    rw [hx13] at g1 g13 g14 ⊢
    obtain ⟨q6, k6, k6'⟩ := st_eq n13 n14 g13 g14 (fun u t => by unfold rSub rOr; cases inL a u t <;> cases inL b u t <;> cases inL c u t <;> rfl)
    refine TT.bind k6 (TT.eq k6' ?_)
    obtain ⟨l15, e15, w15, n15, g15⟩ := st_op .and p_Meet (p := d) (q := b) (x := x13) n1 (by omega) g1 gb
    refine TT.bind w15 (TT.bind (flag_is x13 e15) ?_)
    obtain ⟨x14, hx14⟩ : ∃ x, (x13 || !(e15 == 0)) = x := ⟨_, rfl⟩
    rw [hx14] at g15 ⊢
    refine ⟨_, _, rfl, ?_⟩
    cases x14 with
    | true => simp
    | false =>
      rw [good_nil (g15 rfl) fun u t => by unfold rSub rAnd; cases inL a u t <;> cases inL b u t <;> rfl]
      rfl
  · refine bB (v := true) ?_ (bT rfl rfl)
    by_cases la : a.length ≤ 10
    · refine bF (dF (by omega)) ?_
      by_cases lb : b.length ≤ 10
      · refine bF (dF (by omega)) ?_
        by_cases lc : c.length ≤ 10
        · refine bF (dF (by omega)) (bB (p_ref35_List a (by omega)) ?_)
          cases va : lvB a with
          | false => rfl
          | true =>
            refine bF rfl (bB (p_ref35_List b (by omega)) ?_)
            cases vb : lvB b with
            | false => rfl
            | true =>
              refine bF rfl (bB (p_ref35_List c (by omega)) ?_)
              cases vc : lvB c with
              | false => rfl
              | true => exact absurd ⟨la, lb, lc, va, vb, vc⟩ h
        · exact bT (dT (by omega)) rfl
      · exact bT (dT (by omega)) rfl
    · exact bT (dT (by omega)) rfl
end Go.Proofs.Ytkdffpncpikdmaa
