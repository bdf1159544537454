/-
  A region whose order the tape draws, walked along a tree: where several operations that are no reads may come up, each of them is walked. No program here.
-/
import Derived.Test.YtmnhfaaaaejpaaaGreatPi
import Derived.Test.YtmnhfaaaaejpaaaGreatBoth
namespace Go.Proofs.YtmnhfaaaaejpaaaGreat
open Go.RowKit Go.BigFrame

/-- the late ones; a part of the walk (0: reads, whatever the world; 1: reads, in every later world; else: one operation, alone); one operation of several; no more of them -/
inductive Dr where
  | fin
  | seg (k : Nat) (is : List Nat) (r : Dr)
  | alt (i : Nat) (x y : Dr)
  | no
  | one (i : Nat) (r : Dr)
  | tl (is : List Nat) (r : Dr)
  | done

def Dr.cnt (lt : List Nat) : Dr → Nat
  | .fin => lt.length
  | .seg _ is r => is.length + r.cnt lt
  | .alt _ x _ => 1 + x.cnt lt
  | .no => 0
  | .one _ r => 1 + r.cnt lt
  | .tl is r => is.length + r.cnt lt
  | .done => 0
def Dr.heads : Dr → List Nat
  | .alt i _ y => i :: y.heads
  | _ => []

section
variable {P : Program} {ops : Array Oper} {md : Region.Mode} {Q : Exit → Act → World → Prop} {S : World → Prop} {late : Nat → Bool}

/-- late ones, each forced, and reads of no memory among them and behind them -/
def tlB (md : Region.Mode) (ops : Array Oper) (B : Array Nat) (lt : List Nat) : Dr → Array Bool → Nat → Bool
  | .one i r, listed, n => (onesB md ops [i] listed && lt.contains i) && (decide (1 ≤ n) && tlB md ops B lt r (listed.setIfInBounds i true) (n - 1))
  | .tl is r, listed, n => readsB md ops B [] is listed && (decide (is.length ≤ n) && tlB md ops B lt r (setAll is listed) (n - is.length))
  | .done, listed, n => decide (n = 0) && (Region.ready md ops listed).isEmpty
  | _, _, _ => false
/-- h: at the head of a row of several -/
def drB (md : Region.Mode) (ops : Array Oper) (B : Array Nat) (lt : List Nat) : Dr → Bool → Array Bool → Nat → Bool
  | .fin, _, listed, n => decide (n = lt.length) && (onesB md ops lt listed && (Region.ready md ops (setAll lt listed)).isEmpty)
  | .seg 0 is r, _, listed, n => readsB md ops B [] is listed && (decide (is.length ≤ n) && drB md ops B lt r true (setAll is listed) (n - is.length))
  | .seg 1 is r, _, listed, n => readsB md ops B lt is listed && (decide (is.length ≤ n) && drB md ops B lt r true (setAll is listed) (n - is.length))
  | .seg (_ + 2) is r, _, listed, n => (onesB md ops is listed && (decide (is.length = 1) && is.all fun i => !lt.contains i)) && (decide (1 ≤ n) && drB md ops B lt r true (setAll is listed) (n - 1))
  | .alt i x y, h, listed, n => (!h || (!(Region.ready md ops listed).isEmpty && (Region.ready md ops listed).all fun j => (i :: y.heads).contains j)) &&
      ((!lt.contains i && decide (i < ops.size)) && (decide (1 ≤ n) && (drB md ops B lt x true (listed.setIfInBounds i true) (n - 1) && drB md ops B lt y false listed n)))
  | .no, h, _, _ => !h
  | .one i r, _, listed, n => tlB md ops B lt (.one i r) listed n
  | .tl is r, _, listed, n => tlB md ops B lt (.tl is r) listed n
  | .done, _, listed, n => tlB md ops B lt .done listed n

def wpDr (P : Program) (l : List Oper) (Q : Exit → Act → World → Prop) (S : World → Prop) (lt : List Nat) : Dr → Act → World → Prop
  | .fin, a, w => wpList P l.toArray Q (pick l lt) a w
  | .seg 0 is r, a, w => wpQuiet P l.toArray (fun _ => True) (fun a' => wpDr P l Q S lt r a' w) (pick l is) a
  | .seg 1 is r, a, w => wpQuiet P l.toArray S (fun a' => wpDr P l Q S lt r a' w) (pick l is) a
  | .seg (_ + 2) is r, a, w => wpList P l.toArray (Exit.then (fun a' w' => S w' ∧ wpDr P l Q S lt r a' w') Q) (pick l is) a w
  | .alt i x y, a, w => wpList P l.toArray (Exit.then (fun a' w' => S w' ∧ wpDr P l Q S lt x a' w') Q) (pick l [i]) a w ∧ wpDr P l Q S lt y a w
  | .no, _, _ => True
  | .one i r, a, w => wpList P l.toArray (Exit.then (fun a' w' => wpDr P l Q S lt r a' w') Q) (pick l [i]) a w
  | .tl is r, a, w => wpQuiet P l.toArray (fun _ => True) (fun a' => wpDr P l Q S lt r a' w) (pick l is) a
  | .done, a, w => Q .normal a w

theorem wpOp_one {l : List Oper} {K : Act → World → Prop} {i : Nat} (hi : i < l.length) {a : Act} {w : World} (h : wpList P l.toArray (Exit.then K Q) (pick l [i]) a w) : wpOp P l.toArray Q i K a w := by
  have hpk : pick l [i] = [l[i]] := by simp [pick, List.getD_eq_getElem?_getD, List.getElem?_eq_getElem hi]
  rw [hpk] at h
  have hw : wpOp P l.toArray (Exit.then K Q) i (wpList P l.toArray (Exit.then K Q) []) a w := by
    unfold wpOp
    simp only [List.getElem?_eq_getElem hi, List.getElem?_toArray]
    exact h
  exact wpOp_mono (fun a' w' h' => h') (wpOp_Q (Q2 := Q) (fun _ _ _ h => h) (fun _ _ h => h) hw)

theorem tl_sound {l : List Oper} {lt : List Nat} {B : Array Nat} (hsel : Region.noSelect l.toArray = true) (htab : tabOk md l.toArray B = true)
    (hQ : ∀ c a d v w, Q (.panic c) (Act.put a d v) w → Q (.panic c) a w) : ∀ (d : Dr) (n : Nat) (listed : Array Bool) (a : Act) (w : World), Closed md l.toArray listed → tlB md l.toArray B lt d listed n = true → wpDr P l Q S lt d a w →
    wpAnyE P md l.toArray Q S (fun i => lt.contains i) n listed a w := by
  intro d
  induction d with
  | fin => intro n listed a w _ hB; cases hB
  | no => intro n listed a w _ hB; cases hB
  | seg k is r ih => intro n listed a w _ hB; cases hB
  | alt i x y _ _ => intro n listed a w _ hB; cases hB
  | done =>
    intro n listed a w _ hB h
    simp only [tlB, Bool.and_eq_true, decide_eq_true_eq] at hB
    obtain ⟨rfl, h2⟩ := hB
    exact ⟨by simpa using h2, h⟩
  | tl is r ih =>
    intro n listed a w hcl hB h
    simp only [tlB, Bool.and_eq_true, decide_eq_true_eq] at hB
    have e : n = is.length + (n - is.length) := by omega
    rw [e]
    exact reads_sound (T := fun _ => True) hsel htab hQ (.inl fun _ => trivial) trivial is listed a hcl hB.1 h (fun a' ha' hc' => ih _ _ a' w hc' hB.2.2 ha')
  | one i r ih =>
    intro n listed a w hcl hB h
    simp only [tlB, Bool.and_eq_true, decide_eq_true_eq] at hB
    obtain ⟨⟨h1, h3⟩, h4, h5⟩ := hB
    simp only [onesB, Bool.and_eq_true, decide_eq_true_eq] at h1
    obtain ⟨⟨hr, hisz⟩, _⟩ := h1
    obtain ⟨m, rfl⟩ : ∃ m, n = m + 1 := ⟨n - 1, by omega⟩
    refine ⟨fun h0 => (by rw [hr] at h0; cases h0), fun j hj => ?_⟩
    have hj' := hj
    rw [hr] at hj
    obtain rfl : j = i := by simpa using hj
    refine wpOp_mono (fun a' w' h' => ?_) (wpOp_one (by simpa using hisz) h)
    exact ⟨fun hl => (by have hl' : lt.contains j = false := hl; rw [h3] at hl'; cases hl'), ih _ _ a' w' (hcl.set hj') h5 h'⟩
theorem dr_sound {l : List Oper} {lt : List Nat} {B : Array Nat} (hsel : Region.noSelect l.toArray = true) (htab : tabOk md l.toArray B = true)
    (hQ : ∀ c a d v w, Q (.panic c) (Act.put a d v) w → Q (.panic c) a w) : ∀ (d : Dr),
    (∀ (n : Nat) (listed : Array Bool) (a : Act) (w : World), Closed md l.toArray listed → S w → drB md l.toArray B lt d true listed n = true → wpDr P l Q S lt d a w → wpAnyE P md l.toArray Q S (fun i => lt.contains i) n listed a w) ∧
    (∀ (n : Nat) (listed : Array Bool) (a : Act) (w : World), Closed md l.toArray listed → S w → drB md l.toArray B lt d false listed n = true → wpDr P l Q S lt d a w → ∀ j ∈ d.heads, j ∈ Region.ready md l.toArray listed →
      wpOp P l.toArray Q j (fun a' w' => (lt.contains j = false → S w → S w') ∧ wpAnyE P md l.toArray Q S (fun i => lt.contains i) (n - 1) (listed.setIfInBounds j true) a' w') a w) := by
  intro d
  induction d with
  | fin =>
    refine ⟨fun n listed a w hcl hS hB h => ?_, fun n listed a w _ _ _ _ j hj => by cases hj⟩
    simp only [drB, Bool.and_eq_true, decide_eq_true_eq] at hB
    obtain ⟨rfl, h1, h2⟩ := hB
    exact ones_sound lt listed a w (fun i hi => hi) h1 h2 h
  | no => exact ⟨fun n listed a w _ _ hB => by simp [drB] at hB, fun n listed a w _ _ _ _ j hj => by cases hj⟩
  | one i r _ => exact ⟨fun n listed a w hcl _ hB h => tl_sound hsel htab hQ _ n listed a w hcl hB h, fun n listed a w _ _ _ _ j hj => by cases hj⟩
  | tl is r _ => exact ⟨fun n listed a w hcl _ hB h => tl_sound hsel htab hQ _ n listed a w hcl hB h, fun n listed a w _ _ _ _ j hj => by cases hj⟩
  | done => exact ⟨fun n listed a w hcl _ hB h => tl_sound hsel htab hQ _ n listed a w hcl hB h, fun n listed a w _ _ _ _ j hj => by cases hj⟩
  | seg k is r ih =>
    refine ⟨fun n listed a w hcl hS hB h => ?_, fun n listed a w _ _ _ _ j hj => by cases hj⟩
    match k with
    | 0 =>
      simp only [drB, Bool.and_eq_true, decide_eq_true_eq] at hB
      have e : n = is.length + (n - is.length) := by omega
      rw [e]
      exact reads_sound (T := fun _ => True) hsel htab hQ (.inl fun _ => trivial) trivial is listed a hcl hB.1 h (fun a' ha' hc' => ih.1 _ _ a' w hc' hS hB.2.2 ha')
    | 1 =>
      simp only [drB, Bool.and_eq_true, decide_eq_true_eq] at hB
      have e : n = is.length + (n - is.length) := by omega
      rw [e]
      exact reads_sound (T := S) hsel htab hQ (.inr ⟨rfl, rfl⟩) hS is listed a hcl hB.1 h (fun a' ha' hc' => ih.1 _ _ a' w hc' hS hB.2.2 ha')
    | k + 2 =>
      simp only [drB, Bool.and_eq_true, decide_eq_true_eq] at hB
      obtain ⟨⟨h1, h2, h3⟩, h4, h5⟩ := hB
      obtain ⟨i, rfl⟩ : ∃ i, is = [i] := by
        match is, h2 with
        | [i], _ => exact ⟨i, rfl⟩
      simp only [onesB, Bool.and_eq_true, decide_eq_true_eq] at h1
      obtain ⟨⟨hr, hisz⟩, _⟩ := h1
      obtain ⟨m, rfl⟩ : ∃ m, n = m + 1 := ⟨n - 1, by omega⟩
      refine ⟨fun h0 => (by rw [hr] at h0; cases h0), fun j hj => ?_⟩
      have hj' := hj
      rw [hr] at hj
      obtain rfl : j = i := by simpa using hj
      refine wpOp_mono (fun a' w' h' => ?_) (wpOp_one (by simpa using hisz) h)
      exact ⟨fun _ _ => h'.1, ih.1 _ _ a' w' (hcl.set hj') h'.1 h5 h'.2⟩
  | alt i x y ihx ihy =>
    have key : ∀ (n : Nat) (listed : Array Bool) (a : Act) (w : World), Closed md l.toArray listed → S w → drB md l.toArray B lt (.alt i x y) false listed n = true → wpDr P l Q S lt (.alt i x y) a w → ∀ j ∈ (Dr.alt i x y).heads, j ∈ Region.ready md l.toArray listed →
      wpOp P l.toArray Q j (fun a' w' => (lt.contains j = false → S w → S w') ∧ wpAnyE P md l.toArray Q S (fun i => lt.contains i) (n - 1) (listed.setIfInBounds j true) a' w') a w := by
      intro n listed a w hcl hS hB h j hj hr
      simp only [drB, Bool.not_false, Bool.true_or, Bool.true_and, Bool.and_eq_true, decide_eq_true_eq] at hB
      obtain ⟨⟨_, hisz⟩, hn, hx, hy⟩ := hB
      simp only [Dr.heads, List.mem_cons] at hj
      rcases hj with rfl | hj
      · refine wpOp_mono (fun a' w' h' => ?_) (wpOp_one (by simpa using hisz) h.1)
        exact ⟨fun _ _ => h'.1, ihx.1 _ _ a' w' (hcl.set hr) h'.1 hx h'.2⟩
      · exact ihy.2 n listed a w hcl hS hy h.2 j hj hr
    refine ⟨fun n listed a w hcl hS hB h => ?_, key⟩
    have hB' := hB
    simp only [drB, Bool.not_true, Bool.false_or, Bool.and_eq_true, decide_eq_true_eq, Bool.not_eq_true'] at hB
    obtain ⟨⟨hne, hall⟩, _, hn, _⟩ := hB
    have hBf : drB md l.toArray B lt (.alt i x y) false listed n = true := by
      simp only [drB, Bool.and_eq_true] at hB' ⊢
      exact ⟨by simp, hB'.2⟩
    obtain ⟨m, rfl⟩ : ∃ m, n = m + 1 := ⟨n - 1, by omega⟩
    refine ⟨fun h0 => (by rw [h0] at hne; cases hne), fun j hj => ?_⟩
    have hjh : j ∈ (Dr.alt i x y).heads := by
      have := List.all_eq_true.1 hall j hj
      simpa [Dr.heads] using this
    exact key (m + 1) listed a w hcl hS hBf h j hjh hj

def pdB (md : Region.Mode) (ops : Array Oper) (d : Dr) (lt : List Nat) : Bool :=
  Region.noSelect ops && (tabOk md ops (Region.before ops) && drB md ops (Region.before ops) lt d true (Array.replicate ops.size false) ops.size)
theorem wp_region_pdS {id : Nat} {a : Act} {w : World} {l : List Oper} (d : Dr) (lt : List Nat) (hm : P.follows .mixedOrders = true) (hd : ndL l = true) (hB : pdB .any l.toArray d lt = true)
    (hS : S w.drew) (h : wpDr P l (Exit.then (fun a w => Q .normal a w) (NoPan Q)) S lt d a w.drew) : Both P (.region id l.toArray true) Q a w := by
  simp only [pdB, Bool.and_eq_true] at hB
  obtain ⟨hsel, htab, hseg⟩ := hB
  have hcl : Closed .any l.toArray (Array.replicate l.toArray.size false) := fun j oj _ hl => (by rw [getD_replicate_false] at hl; cases hl)
  have := (dr_sound (Q := EndQ Q) (S := S) hsel htab (fun _ _ _ _ _ h => h) d).1 _ _ a _ hcl hS hseg h
  exact both_mono (both_region_any hd hm (wpAny_of_E _ _ _ _ this)) EndQ.imp
theorem wp_region_pd {id : Nat} {a : Act} {w : World} {l : List Oper} (d : Dr) (lt : List Nat) (hm : P.follows .mixedOrders = true) (hd : ndL l = true) (hB : pdB .any l.toArray d lt = true)
    (h : ∀ W, W = w.drew → wpDr P l (Exit.then (fun a w => Q .normal a w) (NoPan Q)) (fun w' => ∃ z : Bw W, w' = z.1) lt d a W) : Both P (.region id l.toArray true) Q a w := by
  simp only [pdB, Bool.and_eq_true] at hB
  obtain ⟨hsel, htab, hseg⟩ := hB
  have hcl : Closed .any l.toArray (Array.replicate l.toArray.size false) := fun j oj _ hl => (by rw [getD_replicate_false] at hl; cases hl)
  have := (dr_sound (Q := EndQ Q) (S := fun w' => ∃ z : Bw w.drew, w' = z.1) hsel htab (fun _ _ _ _ _ h => h) d).1 _ _ a _ hcl ⟨⟨_, Below.refl _ _⟩, rfl⟩ hseg (h w.drew rfl)
  exact both_mono (both_region_any hd hm (wpAny_of_E _ _ _ _ this)) EndQ.imp
end
end Go.Proofs.YtmnhfaaaaejpaaaGreat
