/-
  What holds of a piece of code in a function's own frame and in a round of a range over a function alike. No program here.
-/
import Derived.Test.YtmnhfaaaaejpaaaGreatBase
import Derived.Deep.LoopGhost
import Derived.Sort.LoopGhostIn
import Derived.OrdersIn
import Derived.LoopN
import Derived.LoopNIn
import Derived.Scope
import Derived.RangeFuncCalls
namespace Go.Proofs.YtmnhfaaaaejpaaaGreat
open Go.RowKit

/-- no statement that defers -/
def ndOp (o : Oper) : Bool := match o.op with
  | .defer _ => false
  | _ => true
def ndL : List Oper → Bool
  | [] => true
  | o :: l => ndOp o && ndL l
theorem ndL_at : ∀ {l : List Oper}, ndL l = true → ∀ (i : Nat) o, l[i]? = some o → ndOp o = true := by
  intro l
  induction l with
  | nil => intro _ i o h; simp at h
  | cons x l ih =>
    intro h i o hi
    simp only [ndL, Bool.and_eq_true] at h
    cases i with
    | zero => simp at hi; subst hi; exact h.1
    | succ i => exact ih h.2 i o (by simpa using hi)

/-- no range over a function -/
def nrf : Code → Bool
  | .seq x y => nrf x && nrf y
  | .cond _ x y => nrf x && nrf y
  | .block _ b => nrf b
  | .loop b => nrf b
  | .scope b => nrf b
  | .rangeFunc .. => false
  | _ => true
theorem nrf_seq {x y : Code} (h : nrf (.seq x y) = true) : nrf x = true ∧ nrf y = true := by simpa [nrf] using h
theorem nrf_cond {o : Operand} {x y : Code} (h : nrf (.cond o x y) = true) : nrf x = true ∧ nrf y = true := by simpa [nrf] using h

def Both (P : Program) (c : Code) (Q : Exit → Act → World → Prop) (a : Act) (w : World) : Prop :=
  c.wp P Q a w ∧ (nrf c = true → ∀ l n, ¬ LetsOut Q → c.wpIn (Fence.wide.inRound l) n P Q a w)

section
variable {P : Program} {Q : Exit → Act → World → Prop} {a : Act} {w : World} {c x y : Code}
theorem lets_imp {Q Q' : Exit → Act → World → Prop} (hq : ∀ e a w, Q e a w → Q' e a w) (h : ¬ LetsOut Q') : ¬ LetsOut Q := fun ⟨a, w, q⟩ => h ⟨a, w, hq _ _ _ q⟩
theorem both_mono {Q' : Exit → Act → World → Prop} (h : Both P c Q a w) (hq : ∀ e a w, Q e a w → Q' e a w) : Both P c Q' a w :=
  ⟨wp_mono h.1 hq, fun hc l n hL => wpIn_mono (h.2 hc l n (lets_imp hq hL)) hq⟩
theorem both_skip (h : Q .normal a w) : Both P .skip Q a w := ⟨wp_skip h, fun _ _ _ _ => wpIn_skip h⟩
theorem both_label {l : Nat} (h : Q .normal a w) : Both P (.label l) Q a w := ⟨wp_label h, fun _ _ _ _ => wpIn_label h⟩
theorem both_exit {id : Nat} (h : Q (.exit id) a w) : Both P (.exit id) Q a w := ⟨wp_exit h, fun _ _ _ _ => wpIn_exit h⟩
theorem both_ret (h : Q .ret a w) : Both P .ret Q a w := ⟨wp_ret h, fun _ _ _ _ => wpIn_ret h⟩
theorem both_seq (h : Both P x (Exit.then (Both P y Q) Q) a w) : Both P (.seq x y) Q a w :=
  ⟨wp_seq (wp_mono h.1 fun e a w q => by cases e <;> first | exact q.1 | exact q), fun hc l n hL => wpIn_seq (wpIn_mono (h.2 (nrf_seq hc).1 l n (fun ⟨a, w, q⟩ => hL ⟨a, w, q⟩)) fun e a w q => by cases e <;> first | exact q.2 (nrf_seq hc).2 l n hL | exact q)⟩
theorem both_cond_true {o : Operand} (hc : a.eval o = .bool true) (h : Both P x Q a w) : Both P (.cond o x y) Q a w := ⟨wp_cond_true hc h.1, fun hn l n hL => wpIn_cond_true hc (h.2 (nrf_cond hn).1 l n hL)⟩
theorem both_cond_false {o : Operand} (hc : a.eval o = .bool false) (h : Both P y Q a w) : Both P (.cond o x y) Q a w := ⟨wp_cond_false hc h.1, fun hn l n hL => wpIn_cond_false hc (h.2 (nrf_cond hn).2 l n hL)⟩
theorem both_block {id : Nat} (h : Both P c (Exit.inBlock id Q) a w) : Both P (.block id c) Q a w :=
  ⟨wp_block h.1, fun hc l n hL => wpIn_block (h.2 hc l n (fun ⟨a, w, q⟩ => hL ⟨a, w, q⟩))⟩
theorem stepR_scope' {b : Frame} {k : List Item} {cs : List Frame} : step P (lone (b.atR a (.code (.scope c) :: k)) cs w) = .next (lone (b.atR a (.code c :: .inScope c :: k)) cs w) :=
  step_lone_go (by simp [stepG, stepG.exec, Frame.atR])
theorem stepR_inScope' {b : Frame} {k : List Item} {cs : List Frame} : step P (lone (b.atR a (.inScope c :: k)) cs w) = .next (lone (b.atR a k) cs w) :=
  step_lone_go (by simp [stepG, stepG.exec, Frame.atR])
theorem wpIn_scope_straight {F : Fence} {n : Nat} (h : c.wpIn F n P (Exit.noGoto Q) a w) : (Code.scope c).wpIn F n P Q a w := by
  intro b k cs hro hb hr
  have h0 : (lone (b.atR a (.code (.scope c) :: k)) cs w).fenced P F := fenced_calm hb hr rfl
  obtain ⟨e, a₁, w₁, hq, harr⟩ := h b (.inScope c :: k) cs hro hb hr
  cases e with
  | normal => exact ⟨.normal, a₁, w₁, hq, .head h0 stepR_scope' (StepsIn.trans harr (.one (fenced_calm hb hr rfl) stepR_inScope'))⟩
  | exit id =>
    have hx : exitTo id (.inScope c :: k) = exitTo id k := by simp [exitTo]
    exact ⟨.exit id, a₁, w₁, hq, fun k' hk => .head h0 stepR_scope' (harr.1 k' (by rw [hx]; exact hk)),
      fun hr' hk => let ⟨k₁, h1, h2⟩ := harr.2 hr' (by rw [hx]; exact hk); ⟨k₁, h1, .head h0 stepR_scope' h2⟩⟩
  | goto l => exact hq.elim
  | ret => exact ⟨_, a₁, w₁, hq, .of_steps (.one h0 stepR_scope') harr⟩
  | panic ch => exact ⟨_, a₁, w₁, hq, .of_steps (.one h0 stepR_scope') harr⟩
  | outgrown => exact ⟨_, a₁, w₁, hq, .of_steps (.one h0 stepR_scope') harr⟩
theorem both_scope_straight (h : Both P c (Exit.noGoto Q) a w) : Both P (.scope c) Q a w :=
  ⟨wp_scope_straight h.1, fun hc l n hL => wpIn_scope_straight (h.2 hc l n (fun ⟨a, w, q⟩ => hL ⟨a, w, q⟩))⟩
theorem both_loop_ghost (I : Nat → Act → World → Prop) (n₀ : Nat) (h₀ : I n₀ a w) (round : ∀ n a w, I n a w → Both P c (Exit.then (fun a' w' => ∃ n', n' < n ∧ I n' a' w') Q) a w) : Both P (.loop c) Q a w :=
  ⟨wp_loop_ghost I n₀ h₀ fun n a w h => (round n a w h).1, fun hc l m hL => wpIn_loop_ghost I n₀ h₀ fun n a w h => (round n a w h).2 hc l m (fun ⟨a, w, q⟩ => hL ⟨a, w, q⟩)⟩
def bRounds (P : Program) (c : Code) (Q : Exit → Act → World → Prop) : Nat → Act → World → Prop
  | 0, _, _ => False
  | n + 1, a, w => Both P c (Exit.then (bRounds P c Q n) Q) a w
theorem bRounds_succ {n : Nat} : bRounds P c Q (n + 1) a w = Both P c (Exit.then (bRounds P c Q n) Q) a w := rfl
theorem both_loop_rounds (n : Nat) (h : bRounds P c Q n a w) : Both P (.loop c) Q a w := by
  refine ⟨wp_loop_rounds n ?_, fun hc l m hL => wpIn_loop_rounds n ?_⟩
  · induction n generalizing a w with
    | zero => exact h.elim
    | succ n ih =>
      rw [rounds_succ]
      refine wp_mono h.1 fun e a w q => ?_
      cases e <;> first | exact ih q | exact q
  · induction n generalizing a w with
    | zero => exact h.elim
    | succ n ih =>
      rw [roundsIn_succ]
      refine wpIn_mono (h.2 hc l m (fun ⟨a, w, q⟩ => hL ⟨a, w, q⟩)) fun e a w q => ?_
      cases e <;> first | exact ih q | exact q

/-! operations -/
theorem oper_both {o : Oper} {next next' : Act → World → Prop} {l n : Nat} (hd : ndOp o = true) (h : o.wp P a w next Q) (hn : ∀ a w, next a w → next' a w) : o.wpIn (Fence.wide.inRound l) n P a w next' Q := by
  refine ⟨fun _ _ => trivial, ?_⟩
  have hs : Oper.semAt (Fence.wide.inRound l).round a.eval o = execOp a.eval o := Oper.semAt_eq _ _ _ fun c e => by unfold ndOp at hd; rw [e] at hd; cases hd
  rw [hs]
  unfold Oper.wp at h
  generalize (execOp a.eval o).run P w = r at *
  cases r with
  | ok nx w' =>
    cases nx <;> simp only [Oper.upon, Oper.uponIn] at h ⊢ <;> try exact hn _ _ h
    case enter f args =>
      refine ⟨fun h => (by cases h), CallsIn.inRound l (callsIn_wide.2 (Calls.mono h fun e w'' he => ?_))⟩
      cases e with
      | returned u => exact hn _ _ he
      | panicked c => exact he
      | outgrown => exact he
    case row r args =>
      refine ⟨fun h => (by cases h), fun c cs _ => ?_⟩
      obtain ⟨v, w'', h1, h2⟩ := h c cs
      exact ⟨v, w'', hn _ _ h1, stepsIn_wide.2 h2⟩
  | halt z w' =>
    cases z <;> simp only [Oper.upon, Oper.uponIn] at h ⊢
    case panic u => exact h
theorem ops_both {ops : Array Oper} {l n : Nat} (hd : ndL ops.toList = true) (hL : ¬ LetsOut Q) : ∀ (is : List Nat) (a : Act) (w : World), wpOps P ops Q is a w → wpOpsIn (Fence.wide.inRound l) n P ops Q is a w := by
  intro is
  induction is with
  | nil => intro a w h; exact h
  | cons i is ih =>
    intro a w h
    simp only [wpOps, wpOpsIn] at h ⊢
    cases ho : ops[i]? with
    | none => simp only [ho] at h; exact ih a w h
    | some o =>
      simp only [ho] at h
      have h1 := ndL_at hd i o (by rw [Array.getElem?_toList]; exact ho)
      simp only
      split
      · rename_i hw
        simp only [hw, if_true] at h
        rcases h with h | h
        · exact oper_both h1 h ih
        · exact absurd h.2 hL
      · rename_i hw
        rw [if_neg hw] at h
        exact ⟨fun _ _ => trivial, ih _ _ h⟩
theorem both_region_list {id : Nat} {ops : Array Oper} (hd : ndL ops.toList = true) (h : wpList P ops Q ops.toList a w) : Both P (.region id ops false) Q a w := by
  have h' : wpOps P ops Q (List.range ops.size) a w := by rw [List.range_eq_range', ← Array.length_toList, wpOps_eq_wpList ops.toList 0 (by simp)]; exact h
  exact ⟨wp_region h', fun _ l n hL => wpIn_region (ops_both hd hL _ _ _ h')⟩
theorem both_region_any {id : Nat} {ops : Array Oper} (hd : ndL ops.toList = true) (hm : P.follows .mixedOrders = true) (h : wpAny P .any ops Q ops.size (Array.replicate ops.size false) a { w with drawn := w.drawn + 1 }) : Both P (.region id ops true) Q a w := by
  have h' : ∀ t, wpOps P ops Q (Region.schedule (P.follows .mixedOrders) ops t) a { w with drawn := w.drawn + 1 } := fun t => by
    simp only [Region.schedule, hm, Bool.true_or, if_true]
    exact wpAny_sound ops.size t _ a _ h
  exact ⟨wp_region_draw h', fun _ l n hL => wpIn_region_draw fun t => ops_both hd hL _ _ _ (h' t)⟩
end
end Go.Proofs.YtmnhfaaaaejpaaaGreat
