/-
  A region whose order the tape draws, walked in one order that the prover names: a read is taken first where it may come up (it yields one value in every later world), any other operation comes up alone. No program here.
-/
import Derived.Test.YtmnhfaaaaejpaaaGreatQTail
import Derived.OrdersHeld
namespace Go.Proofs.YtmnhfaaaaejpaaaGreat
open Go.RowKit Go.BigFrame

section
variable {P : Program} {ops : Array Oper} {md : Region.Mode} {Q : Exit → Act → World → Prop} {S : World → Prop} {late : Nat → Bool}

/-- whatever order is picked from here on, and what is not late keeps S -/
def wpAnyE (P : Program) (md : Region.Mode) (ops : Array Oper) (Q : Exit → Act → World → Prop) (S : World → Prop) (late : Nat → Bool) : Nat → Array Bool → Act → World → Prop
  | 0, listed, a, w => Region.ready md ops listed = [] ∧ Q .normal a w
  | f + 1, listed, a, w =>
    (Region.ready md ops listed = [] → Q .normal a w) ∧
    ∀ i ∈ Region.ready md ops listed, wpOp P ops Q i (fun a' w' => (late i = false → S w → S w') ∧ wpAnyE P md ops Q S late f (listed.setIfInBounds i true) a' w') a w

theorem wpAny_of_E : ∀ (f : Nat) (listed : Array Bool) (a : Act) (w : World), wpAnyE P md ops Q S late f listed a w → wpAny P md ops Q f listed a w
  | 0, _, _, _, h => h
  | f + 1, _, _, _, h => ⟨h.1, fun i hi => wpOp_mono (fun a' w' h' => wpAny_of_E f _ a' w' h'.2) (h.2 i hi)⟩

/-- in every world of T the operation leaves v and the world as it is -/
def ReadsAt (P : Program) (ops : Array Oper) (T : World → Prop) (o : Oper) (v : Value) (a : Act) : Prop :=
  (Region.wanted o (yielded ops a.tmps) = true ∧ ∀ w, T w → (execOp a.eval o).run P w = .ok (.value v) w ∨ ((execOp a.eval o).run P w = .ok .skip w ∧ v = undef)) ∨
  (Region.wanted o (yielded ops a.tmps) = false ∧ v = undef)

theorem ReadsAt.wpOp {T : World → Prop} {i : Nat} {o : Oper} {v : Value} {a : Act} (hi : ops[i]? = some o) (hy : ReadsAt P ops T o v a)
    {K : Act → World → Prop} {w : World} (hT : T w) (h : K (a.put o.dst v) w) : wpOp P ops Q i K a w := by
  unfold Go.wpOp
  simp only [hi]
  rcases hy with ⟨hw, hv⟩ | ⟨hw, rfl⟩
  · simp only [hw, if_true]
    rcases hv w hT with hv | ⟨hv, hu⟩
    · simp only [Oper.wp, hv, Oper.upon]; exact .inl h
    · rw [hu] at h; left; unfold Oper.wp; rw [hv]; exact h
  · simp only [hw, Bool.false_eq_true, if_false]; exact h

theorem ReadsAt.of_same {T : World → Prop} {o : Oper} {v : Value} {a a' : Act} (hy : ReadsAt P ops T o v a) (he : execOp a'.eval o = execOp a.eval o)
    (hw : Region.wanted o (yielded ops a'.tmps) = Region.wanted o (yielded ops a.tmps)) : ReadsAt P ops T o v a' := by
  unfold ReadsAt at *
  rw [he, hw]
  exact hy

theorem wpOp_putE {T : World → Prop} {j : Nat} {oi oj : Oper} {v : Value} (hj : ops[j]? = some oj) (hap : oi.apart ops oj = true)
    (hsi : ∀ cs b, oi.op ≠ .select cs b) (hsj : ∀ cs b, oj.op ≠ .select cs b)
    (hQ : ∀ c a w, Q (.panic c) (a.put oi.dst v) w → Q (.panic c) a w) {K : Act → World → Prop} {a : Act} {w : World}
    (hy : ReadsAt P ops T oi v a) (h : wpOp P ops Q j K (a.put oi.dst v) w) :
    wpOp P ops Q j (fun a' w' => ReadsAt P ops T oi v a' ∧ K (a'.put oi.dst v) w') a w := by
  obtain ⟨h1, h2, h3⟩ := Oper.apart_spec hap
  have keep : ∀ (a : Act), ReadsAt P ops T oi v a → ∀ u, ReadsAt P ops T oi v (a.put oj.dst u) := fun a hy u =>
    hy.of_same (execOp_put oi hsi a oj.dst u h3) (wanted_put oi a oj.dst u h3)
  have keepD : ∀ d, ReadsAt P ops T oi v { a with defers := d :: a.defers } := fun d => hy.of_same rfl rfl
  unfold wpOp at *
  simp only [hj] at *
  rw [wanted_put oj a oi.dst v h1] at h
  split
  · rename_i hw
    simp only [hw, if_true] at h
    rcases h with h | ⟨hasks, hlets⟩
    case inr => exact .inr ⟨by unfold Oper.asks at *; rw [execOp_put oj hsj a oi.dst v h1] at hasks; exact hasks, hlets⟩
    refine .inl ?_
    unfold Oper.wp at *
    rw [execOp_put oj hsj a oi.dst v h1] at h
    generalize (execOp a.eval oj).run P w = r at *
    cases r with
    | ok n w' =>
      cases n <;> simp only [Oper.upon] at h ⊢
      case value u => exact ⟨keep a hy u, by rw [← Act.put_comm a v u h2]; exact h⟩
      case skip => exact ⟨keep a hy _, by rw [← Act.put_comm a v undef h2]; exact h⟩
      case defer d =>
        refine ⟨keep _ (keepD d) _, ?_⟩
        rw [← Act.put_comm _ v undef h2, ← Act.put_defers]
        exact h
      case enter f args =>
        refine Calls.mono h fun e w'' he => ?_
        cases e with
        | returned u => exact ⟨keep a hy u, by rw [← Act.put_comm a v u h2]; exact he⟩
        | panicked c => exact hQ _ _ _ he
        | outgrown => exact he
      case row row args => exact Rows.mono h fun u w'' he => ⟨keep a hy u, by rw [← Act.put_comm a v u h2]; exact he⟩
    | halt x w' =>
      cases x <;> simp only [Oper.upon] at h ⊢
      case panic u => exact hQ _ _ _ h
  · rename_i hw
    simp only [hw] at h
    exact ⟨keep a hy _, by rw [← Act.put_comm a v undef h2]; exact h⟩

/-- what has come up has come up behind all that it waits for -/
def Closed (md : Region.Mode) (ops : Array Oper) (listed : Array Bool) : Prop :=
  ∀ j oj, ops[j]? = some oj → listed.getD j false = true → ∀ e ∈ oj.after, Region.binds md e = true → listed.getD e.on false = true

theorem Closed.set {i : Nat} {listed : Array Bool} (inv : Closed md ops listed) (hi : i ∈ Region.ready md ops listed) : Closed md ops (listed.setIfInBounds i true) := by
  obtain ⟨_, oi, hoi, hall⟩ := mem_ready.1 hi
  intro j oj hj hl e he hb
  by_cases hij : i = j
  · subst hij
    have : oj = oi := Option.some.inj (hj.symm.trans hoi)
    subst this
    exact getD_set_true (hall e he hb)
  · rw [getD_set_ne false hij] at hl
    exact getD_set_true (inv j oj hj hl e he hb)

theorem wpAnyE_first {T : World → Prop} {i : Nat} {oi : Oper} {v : Value} (hi : ops[i]? = some oi) (hsel : ∀ (j : Nat) (o : Oper) cs b, ops[j]? = some o → o.op ≠ .select cs b)
    (hQ : ∀ c a w, Q (.panic c) (a.put oi.dst v) w → Q (.panic c) a w)
    (hkeep : ∀ listed', Closed md ops listed' → listed'.getD i true = false → ∀ j ∈ Region.ready md ops listed', ∀ w w', T w → (late j = false → S w → S w') → T w') :
    ∀ (fuel : Nat) (listed : Array Bool) (a : Act) (w : World), Closed md ops listed →
      (∀ j oj, ops[j]? = some oj → j ≠ i → listed.getD j true = false → (∀ e ∈ oj.after, Region.binds md e = true → e.on ≠ i) → oi.apart ops oj = true) →
      i ∈ Region.ready md ops listed → ReadsAt P ops T oi v a → T w →
      wpAnyE P md ops Q S late fuel (listed.setIfInBounds i true) (a.put oi.dst v) w → wpAnyE P md ops Q S late (fuel + 1) listed a w := by
  intro fuel
  induction fuel with
  | zero =>
    intro listed a w _ _ hr hy hT H
    refine ⟨fun h => (by rw [h] at hr; cases hr), fun j hj => ?_⟩
    by_cases hji : j = i
    · subst hji; exact hy.wpOp hi hT ⟨fun _ h => h, H⟩
    · have := ready_mono hj hji
      rw [H.1] at this
      cases this
  | succ fuel ih =>
    intro listed a w hcl hfree hr hy hT H
    refine ⟨fun h => (by rw [h] at hr; cases hr), fun j hj => ?_⟩
    by_cases hji : j = i
    · subst hji; exact hy.wpOp hi hT ⟨fun _ h => h, H⟩
    · have h1 := H.2 j (ready_mono hj hji)
      obtain ⟨hjun, oj, hoj, hall⟩ := mem_ready.1 hj
      have h0 := (mem_ready.1 hr).1
      have hnot : ∀ e ∈ oj.after, Region.binds md e = true → e.on ≠ i := fun e he hb heq => by
        have h1 := hall e he hb
        rw [heq] at h1
        rw [getD_both h0] at h1
        cases h1
      have h2 := wpOp_putE hoj (hfree j oj hoj hji hjun hnot) (fun cs b => hsel i oi cs b hi) (fun cs b => hsel j oj cs b hoj) hQ hy h1
      have hfree' : ∀ k ok, ops[k]? = some ok → k ≠ i → (listed.setIfInBounds j true).getD k true = false →
          (∀ e ∈ ok.after, Region.binds md e = true → e.on ≠ i) → oi.apart ops ok = true := fun k ok hk hki hun hno => by
        refine hfree k ok hk hki ?_ hno
        by_cases hjk : j = k
        · subst hjk; exact hjun
        · rw [getD_set_ne true hjk] at hun; exact hun
      refine wpOp_mono (fun a' w' h3 => ⟨h3.2.1, ih (listed.setIfInBounds j true) a' w' (hcl.set hj) hfree' (ready_mono hr (Ne.symm hji)) h3.1 (hkeep listed hcl h0 j hj w w' hT h3.2.1) ?_⟩) h2
      rw [Array.setIfInBounds_comm _ _ hji]
      exact h3.2.2

/-! what an operation waits for, through others -/
def tabOk (md : Region.Mode) (ops : Array Oper) (B : Array Nat) : Bool :=
  (List.range ops.size).all fun j => match ops[j]? with
    | none => true
    | some o => (List.range ops.size).all fun i => !(B.getD j 0).testBit i || o.after.any fun e => Region.binds md e && (decide (e.on < j) && (e.on == i || (B.getD e.on 0).testBit i))

theorem tab_listed {B : Array Nat} (hB : tabOk md ops B = true) {listed : Array Bool} (hc : Closed md ops listed) {i : Nat} (hi : i < ops.size) :
    ∀ (n j : Nat), j ≤ n → ∀ oj, ops[j]? = some oj → (∀ e ∈ oj.after, Region.binds md e = true → listed.getD e.on false = true) → (B.getD j 0).testBit i = true → listed.getD i false = true := by
  intro n
  induction n with
  | zero =>
    intro j hj oj hoj hall hb
    obtain rfl : j = 0 := by omega
    have h1 := List.all_eq_true.1 hB 0 (List.mem_range.2 (Array.getElem?_eq_some_iff.1 hoj).1)
    simp only [hoj] at h1
    have h2 := List.all_eq_true.1 h1 i (List.mem_range.2 hi)
    simp only [hb, Bool.not_true, Bool.false_or, Array.any_eq_true'] at h2
    obtain ⟨e, _, he2⟩ := h2
    simp at he2
  | succ n ih =>
    intro j hj oj hoj hall hb
    have h1 := List.all_eq_true.1 hB j (List.mem_range.2 (Array.getElem?_eq_some_iff.1 hoj).1)
    simp only [hoj] at h1
    have h2 := List.all_eq_true.1 h1 i (List.mem_range.2 hi)
    simp only [hb, Bool.not_true, Bool.false_or, Array.any_eq_true'] at h2
    obtain ⟨e, he, he2⟩ := h2
    simp only [Bool.and_eq_true, Bool.or_eq_true, decide_eq_true_eq, beq_iff_eq] at he2
    obtain ⟨hbe, hlt, h3⟩ := he2
    have hl := hall e he hbe
    rcases h3 with h3 | h3
    · rw [← h3]; exact hl
    · have hsz : e.on < ops.size := by have := (Array.getElem?_eq_some_iff.1 hoj).1; omega
      exact ih e.on (by omega) ops[e.on] (Array.getElem?_eq_getElem hsz) (fun e' he' hb' => hc _ _ (Array.getElem?_eq_getElem hsz) hl e' he' hb') h3

/-! the walk -/
/-- a read or a sum: no call, no store, nothing made -/
def stillB (o : Oper) : Bool := match o.op with
  | .move _ | .assign _ | .pick .. | .load .. | .binOp .. | .unOp .. | .convert .. | .slice .. | .fieldAddr .. | .field .. | .indexAddr .. | .index .. | .extract .. | .build .. | .makeInterface .. | .lookup .. => true
  | .call { callee := .builtin .len, .. } | .call { callee := .builtin .cap, .. } | .call { callee := .builtin .min, .. } | .call { callee := .builtin .max, .. } => true
  | _ => false

theorem v_enter (s : Sem Value) (w w' : World) (f : FuncId) (args : Array Value) : ((do pure (Next.value (← s)) : Sem Next)).run P w ≠ .ok (.enter f args) w' := by
  intro h
  simp only [Sem.run_bind] at h
  revert h
  cases Sem.run P s w with
  | ok v w1 => intro h; simp [pure] at h
  | halt x w1 => intro h; simp at h

theorem still_enter {o : Oper} (h : stillB o = true) (ρ : Operand → Value) (w w' : World) (f : FuncId) (args : Array Value) : (execOp ρ o).run P w ≠ .ok (.enter f args) w' := by
  obtain ⟨dst, op, type, pos, after, guard⟩ := o
  cases op
  case call c =>
    obtain ⟨callee, cargs, ts⟩ := c
    cases callee with
    | value f => simp [stillB] at h
    | invoke r m => simp [stillB] at h
    | builtin b =>
      cases b <;> simp [stillB] at h <;> exact v_enter _ w w' f args
  case pick c a b =>
    intro h
    simp only [execOp, Sem.run_bind] at h
    revert h
    cases Sem.run P (asBool (ρ c)) w with
    | ok v w1 => intro h; simp [pure] at h
    | halt x w1 => intro h; simp at h
  all_goals first
    | (simp [stillB] at h; done)
    | exact v_enter _ w w' f args
    | (intro h; simp [execOp, pure] at h; done)

theorem reads_of_quiet {C : World → Prop} {o : Oper} {a : Act} {K : Act → Prop} (hs : stillB o = true) (h : if Region.wanted o (yielded ops a.tmps) then o.quiet P a C K else K (a.put o.dst undef)) :
    ∃ v, ReadsAt P ops C o v a ∧ K (a.put o.dst v) := by
  by_cases hw : Region.wanted o (yielded ops a.tmps) = true
  · simp only [hw, if_true] at h
    obtain ⟨v, h1, h2⟩ := h
    refine ⟨v, .inl ⟨hw, fun w hC => ?_⟩, h2⟩
    have h3 := h1 w hC
    unfold Oper.quietAt at h3
    have h4 := still_enter (P := P) hs a.eval w
    generalize (execOp a.eval o).run P w = r at *
    cases r with
    | ok n w' =>
      cases n <;> simp only [Oper.quietUpon] at h3
      case value u => exact .inl (by rw [h3.1, h3.2])
      case skip => exact .inr ⟨by rw [h3.1], h3.2⟩
      case enter f args => exact absurd rfl (h4 w' f args)
    | halt x w' => simp only [Oper.quietUpon] at h3
  · simp only [hw] at h
    exact ⟨undef, .inr ⟨by simpa using hw, rfl⟩, h⟩

theorem wpOp_Q {Q1 Q2 : Exit → Act → World → Prop} (h1 : ∀ c a w, Q1 (.panic c) a w → Q2 (.panic c) a w) (h2 : ∀ a w, Q1 .outgrown a w → Q2 .outgrown a w)
    {i : Nat} {K : Act → World → Prop} {a : Act} {w : World} (h : wpOp P ops Q1 i K a w) : wpOp P ops Q2 i K a w := by
  have hl : LetsOut Q1 → LetsOut Q2 := fun ⟨a, w, h⟩ => ⟨a, w, h2 a w h⟩
  unfold wpOp at *
  split
  · rename_i ho; simpa only [ho] using h
  · rename_i o ho
    simp only [ho] at h
    split
    · rename_i hw
      simp only [hw, if_true] at h
      refine h.imp (fun h => ?_) (fun h => ⟨h.1, hl h.2⟩)
      unfold Oper.wp at *
      generalize (execOp a.eval o).run P w = r at *
      cases r with
      | ok n w' =>
        cases n <;> simp only [Oper.upon] at h ⊢ <;> try exact h
        refine Calls.mono h fun e w'' he => ?_
        cases e with
        | returned u => exact he
        | panicked c => exact h1 _ _ _ he
        | outgrown => exact hl he
      | halt x w' =>
        cases x <;> simp only [Oper.upon] at h ⊢
        case panic u => exact h1 _ _ _ h
    · rename_i hw; simp only [hw] at h; exact h

/-- the parts of the walk: 0: reads, whatever the world; 1: reads, in every later world; 2: one operation, alone, that keeps S; then the late ones -/
def wpSeg (P : Program) (ops : Array Oper) (Q : Exit → Act → World → Prop) (S : World → Prop) (lt : List Oper) : List (Nat × List Oper) → Act → World → Prop
  | [], a, w => wpList P ops Q lt a w
  | (0, l) :: r, a, w => wpQuiet P ops (fun _ => True) (fun a' => wpSeg P ops Q S lt r a' w) l a
  | (1, l) :: r, a, w => wpQuiet P ops S (fun a' => wpSeg P ops Q S lt r a' w) l a
  | (_ + 2, l) :: r, a, w => wpList P ops (Exit.then (fun a' w' => S w' ∧ wpSeg P ops Q S lt r a' w') Q) l a w

theorem seg0 {P : Program} {ops : Array Oper} {Q : Exit → Act → World → Prop} {S : World → Prop} {lt l : List Oper} {r : List (Nat × List Oper)} {a : Act} {w : World}
    (h : wpQuiet P ops (fun _ => True) (fun a' => wpSeg P ops Q S lt r a' w) l a) : wpSeg P ops Q S lt ((0, l) :: r) a w := h
theorem seg1 {P : Program} {ops : Array Oper} {Q : Exit → Act → World → Prop} {S : World → Prop} {lt l : List Oper} {r : List (Nat × List Oper)} {a : Act} {w : World}
    (h : wpQuiet P ops S (fun a' => wpSeg P ops Q S lt r a' w) l a) : wpSeg P ops Q S lt ((1, l) :: r) a w := h
theorem seg2 {P : Program} {ops : Array Oper} {Q : Exit → Act → World → Prop} {S : World → Prop} {lt l : List Oper} {r : List (Nat × List Oper)} {a : Act} {w : World}
    (h : wpList P ops (Exit.then (fun a' w' => S w' ∧ wpSeg P ops Q S lt r a' w') Q) l a w) : wpSeg P ops Q S lt ((2, l) :: r) a w := h
theorem seg3 {P : Program} {ops : Array Oper} {Q : Exit → Act → World → Prop} {S : World → Prop} {lt : List Oper} {a : Act} {w : World}
    (h : wpList P ops Q lt a w) : wpSeg P ops Q S lt [] a w := h

def pick (ops : List Oper) (is : List Nat) : List Oper := is.map fun i => ops.getD i default
def picks (ops : List Oper) (π : List (Nat × List Nat)) : List (Nat × List Oper) := π.map fun s => (s.1, pick ops s.2)

def setAll (is : List Nat) (listed : Array Bool) : Array Bool := is.foldl (fun l i => l.setIfInBounds i true) listed

def readsB (md : Region.Mode) (ops : Array Oper) (B : Array Nat) (lt : List Nat) : List Nat → Array Bool → Bool
  | [], _ => true
  | i :: is, listed => ((Region.ready md ops listed).contains i && (Region.free md ops listed i && ((match ops[i]? with | some o => stillB o | none => false) && (lt.all fun j => (B.getD j 0).testBit i)))) && readsB md ops B lt is (listed.setIfInBounds i true)
def onesB (md : Region.Mode) (ops : Array Oper) : List Nat → Array Bool → Bool
  | [], _ => true
  | i :: is, listed => (decide (Region.ready md ops listed = [i]) && decide (i < ops.size)) && onesB md ops is (listed.setIfInBounds i true)
def segsB (md : Region.Mode) (ops : Array Oper) (B : Array Nat) (lt : List Nat) : List (Nat × List Nat) → Array Bool → Bool
  | [], listed => onesB md ops lt listed && (Region.ready md ops (setAll lt listed)).isEmpty
  | (0, is) :: r, listed => readsB md ops B [] is listed && segsB md ops B lt r (setAll is listed)
  | (1, is) :: r, listed => readsB md ops B lt is listed && segsB md ops B lt r (setAll is listed)
  | (_ + 2, is) :: r, listed => (onesB md ops is listed && (decide (is.length = 1) && is.all fun i => !lt.contains i)) && segsB md ops B lt r (setAll is listed)
def count (π : List (Nat × List Nat)) : Nat := (π.map fun s => s.2.length).sum
def piB (md : Region.Mode) (ops : Array Oper) (π : List (Nat × List Nat)) (lt : List Nat) : Bool :=
  Region.noSelect ops && (tabOk md ops (Region.before ops) && (decide (count π + lt.length = ops.size) && segsB md ops (Region.before ops) lt π (Array.replicate ops.size false)))

theorem ones_sound {l : List Oper} {lt : List Nat} : ∀ (is : List Nat) (listed : Array Bool) (a : Act) (w : World), (∀ i ∈ is, i ∈ lt) →
    onesB md l.toArray is listed = true → (Region.ready md l.toArray (setAll is listed)).isEmpty = true → wpList P l.toArray Q (pick l is) a w → wpAnyE P md l.toArray Q S (fun i => lt.contains i) is.length listed a w
  | [], listed, a, w, _, _, hr, h => ⟨by simpa [setAll] using hr, h⟩
  | i :: is, listed, a, w, hlt, hB, hr, h => by
    simp only [onesB, Bool.and_eq_true, decide_eq_true_eq] at hB
    obtain ⟨⟨h1, h2⟩, h3⟩ := hB
    refine ⟨fun h0 => (by rw [h1] at h0; cases h0), fun j hj => ?_⟩
    rw [h1] at hj
    obtain rfl : j = i := by simpa using hj
    have h2' : j < l.length := by simpa using h2
    have hw : wpOp P l.toArray Q j (wpList P l.toArray Q (pick l is)) a w := by
      unfold wpOp
      simp only [List.getElem?_eq_getElem h2', List.getElem?_toArray]
      have : pick l (j :: is) = l[j] :: pick l is := by simp [pick, List.getD_eq_getElem?_getD, List.getElem?_eq_getElem h2']
      rw [this] at h
      exact h
    refine wpOp_mono (fun a' w' h' => ⟨fun hl => ?_, ones_sound is _ a' w' (fun k hk => hlt k (List.mem_cons_of_mem _ hk)) h3 hr h'⟩) hw
    have := hlt j List.mem_cons_self
    simp [this] at hl

theorem reads_sound {l : List Oper} {lt rl : List Nat} {B : Array Nat} {T : World → Prop} {Kq : Act → Prop} {n : Nat} {w : World} (hsel : Region.noSelect l.toArray = true) (htab : tabOk md l.toArray B = true)
    (hQ : ∀ c a d v w, Q (.panic c) (Act.put a d v) w → Q (.panic c) a w) (hT : (∀ w, T w) ∨ (rl = lt ∧ T = S)) (hTw : T w) : ∀ (is : List Nat) (listed : Array Bool) (a : Act), Closed md l.toArray listed →
    readsB md l.toArray B rl is listed = true → wpQuiet P l.toArray T Kq (pick l is) a →
    (∀ a', Kq a' → Closed md l.toArray (setAll is listed) → wpAnyE P md l.toArray Q S (fun i => lt.contains i) n (setAll is listed) a' w) →
    wpAnyE P md l.toArray Q S (fun i => lt.contains i) (is.length + n) listed a w
  | [], listed, a, hcl, _, h, hK => by simpa [setAll] using hK a h hcl
  | i :: is, listed, a, hcl, hB, h, hK => by
    simp only [readsB, Bool.and_eq_true] at hB
    obtain ⟨⟨h1, h2, h3, h4⟩, h5⟩ := hB
    cases hi : l.toArray[i]? with
    | none => simp [hi] at h3
    | some o =>
      simp only [hi] at h3
      have hp : pick l (i :: is) = o :: pick l is := by
        have : l[i]? = some o := by simpa using hi
        simp [pick, List.getD_eq_getElem?_getD, this]
      rw [hp] at h
      obtain ⟨v, hy, hk⟩ := reads_of_quiet h3 h
      have hr : i ∈ Region.ready md l.toArray listed := by simpa using h1
      have hisz : i < l.toArray.size := (Array.getElem?_eq_some_iff.1 hi).1
      have hrec := reads_sound hsel htab hQ hT hTw is _ _ (hcl.set hr) h5 hk (fun a' ha' hc' => hK a' ha' (by simpa [setAll] using hc'))
      rw [show (i :: is).length + n = (is.length + n) + 1 by simp; omega]
      refine wpAnyE_first (T := T) hi (Region.noSelect_spec hsel) (fun c a w => hQ c a _ _ w) ?_ _ listed a w hcl (Region.free_spec hi h2) hr hy hTw hrec
      intro listed' hcl' hun j hj w1 w2 hw1 hkeep
      rcases hT with hT | ⟨rfl, rfl⟩
      · exact hT w2
      · refine hkeep ?_ hw1
        by_cases hjl : rl.contains j = true
        · exfalso
          have hjm : j ∈ rl := by simpa using hjl
          have hb := List.all_eq_true.1 h4 j hjm
          obtain ⟨_, oj, hoj, hall⟩ := mem_ready.1 hj
          have := tab_listed htab hcl' hisz j j (Nat.le_refl _) oj hoj hall hb
          rw [getD_both hun] at this
          cases this
        · simpa using hjl

theorem segs_sound {l : List Oper} {lt : List Nat} {B : Array Nat} (hsel : Region.noSelect l.toArray = true) (htab : tabOk md l.toArray B = true)
    (hQ : ∀ c a d v w, Q (.panic c) (Act.put a d v) w → Q (.panic c) a w) : ∀ (π : List (Nat × List Nat)) (listed : Array Bool) (a : Act) (w : World), Closed md l.toArray listed → S w →
    segsB md l.toArray B lt π listed = true → wpSeg P l.toArray Q S (pick l lt) (picks l π) a w → wpAnyE P md l.toArray Q S (fun i => lt.contains i) (count π + lt.length) listed a w
  | [], listed, a, w, hcl, hS, hB, h => by
    simp only [segsB, Bool.and_eq_true] at hB
    have : count [] + lt.length = lt.length := by simp [count]
    rw [this]
    exact ones_sound lt listed a w (fun i hi => hi) hB.1 hB.2 h
  | (0, is) :: r, listed, a, w, hcl, hS, hB, h => by
    simp only [segsB, Bool.and_eq_true] at hB
    have : count ((0, is) :: r) + lt.length = is.length + (count r + lt.length) := by simp [count]; omega
    rw [this]
    exact reads_sound (T := fun _ => True) hsel htab hQ (.inl fun _ => trivial) trivial is listed a hcl hB.1 h (fun a' ha' hc' => segs_sound hsel htab hQ r _ a' w hc' hS hB.2 ha')
  | (1, is) :: r, listed, a, w, hcl, hS, hB, h => by
    simp only [segsB, Bool.and_eq_true] at hB
    have : count ((1, is) :: r) + lt.length = is.length + (count r + lt.length) := by simp [count]; omega
    rw [this]
    exact reads_sound (T := S) hsel htab hQ (.inr ⟨rfl, rfl⟩) hS is listed a hcl hB.1 h (fun a' ha' hc' => segs_sound hsel htab hQ r _ a' w hc' hS hB.2 ha')
  | (k + 2, is) :: r, listed, a, w, hcl, hS, hB, h => by
    simp only [segsB, Bool.and_eq_true, decide_eq_true_eq] at hB
    obtain ⟨⟨h1, h2, h3⟩, h4⟩ := hB
    obtain ⟨i, rfl⟩ : ∃ i, is = [i] := by
      match is, h2 with
      | [i], _ => exact ⟨i, rfl⟩
    simp only [onesB, Bool.and_eq_true, decide_eq_true_eq] at h1
    obtain ⟨⟨hr, hisz⟩, _⟩ := h1
    have : count ((k + 2, [i]) :: r) + lt.length = (count r + lt.length) + 1 := by simp [count]; omega
    rw [this]
    refine ⟨fun h0 => (by rw [hr] at h0; cases h0), fun j hj => ?_⟩
    have hj' := hj
    rw [hr] at hj
    obtain rfl : j = i := by simpa using hj
    have h2' : j < l.length := by simpa using hisz
    have hw : wpOp P l.toArray (Exit.then (fun a' w' => S w' ∧ wpSeg P l.toArray Q S (pick l lt) (picks l r) a' w') Q) j (wpList P l.toArray (Exit.then (fun a' w' => S w' ∧ wpSeg P l.toArray Q S (pick l lt) (picks l r) a' w') Q) []) a w := by
      have hpk : picks l ((k + 2, [j]) :: r) = (k + 2, [l[j]]) :: picks l r := by simp [picks, pick, List.getD_eq_getElem?_getD, List.getElem?_eq_getElem h2']
      rw [hpk] at h
      unfold wpOp
      simp only [List.getElem?_eq_getElem h2', List.getElem?_toArray]
      exact h
    refine wpOp_mono (fun a' w' h' => ?_) (wpOp_Q (Q2 := Q) (fun _ _ _ h => h) (fun _ _ h => h) hw)
    obtain ⟨hS', h''⟩ : S w' ∧ wpSeg P l.toArray Q S (pick l lt) (picks l r) a' w' := h'
    exact ⟨fun _ _ => hS', segs_sound hsel htab hQ r _ a' w' (hcl.set hj') hS' h4 h''⟩

/-- Q where it ends, nothing at a panic -/
def NoPan (Q : Exit → Act → World → Prop) : Exit → Act → World → Prop
  | .panic _, _, _ => False
  | e, a, w => Q e a w
def EndQ (Q : Exit → Act → World → Prop) : Exit → Act → World → Prop := Exit.then (fun a w => Q .normal a w) (NoPan Q)
theorem EndQ.imp {Q : Exit → Act → World → Prop} : ∀ (e : Exit) (a : Act) (w : World), EndQ Q e a w → Q e a w := fun e a w h => by
  cases e <;> first | exact h | exact (h : False).elim

/-- a region in the order π, then the late ones -/
theorem wp_region_pi {id : Nat} {a : Act} {w : World} {l : List Oper} (π : List (Nat × List Nat)) (lt : List Nat) (hm : P.follows .mixedOrders = true) (hB : piB .any l.toArray π lt = true)
    (h : ∀ W, W = w.drew → wpSeg P l.toArray (Exit.then (fun a w => Q .normal a w) (NoPan Q)) (fun w' => ∃ z : Bw W, w' = z.1) (pick l lt) (picks l π) a W) : (Code.region id l.toArray true).wp P Q a w := by
  simp only [piB, Bool.and_eq_true, decide_eq_true_eq] at hB
  obtain ⟨hsel, htab, hc, hseg⟩ := hB
  have hcl : Closed .any l.toArray (Array.replicate l.toArray.size false) := fun j oj _ hl => (by rw [getD_replicate_false] at hl; cases hl)
  have := segs_sound (Q := EndQ Q) hsel htab (fun _ _ _ _ _ h => h) π _ a _ hcl ⟨⟨_, Below.refl _ _⟩, rfl⟩ hseg (h w.drew rfl)
  rw [hc] at this
  exact Code.wp_mono EndQ.imp (wp_region_any hm (wpAny_of_E _ _ _ _ this))
end
end Go.Proofs.YtmnhfaaaaejpaaaGreat
