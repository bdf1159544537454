/-
  A slice of spans (of integers) that the call itself has made: what an append does to it.
-/
import Derived.Test.YtebkfbkgmbgobaaBase
import Derived.Test.YtebkfbkgmbgobaaProg
namespace Go.Proofs.Ytebkfbkgmbgobaa
open Go.RowKit Go.BigFrame

def flat (l : List Sp) : List Value := l.flatMap fun s => [.int .i64 s.1, .int .i64 s.2]
theorem flat_nil : flat [] = [] := rfl
theorem flat_snoc (l : List Sp) (x : Sp) : flat (l ++ [x]) = flat l ++ [.int .i64 x.1, .int .i64 x.2] := by simp [flat]
theorem flat_len (l : List Sp) : (flat l).length = l.length * 2 := by
  induction l with
  | nil => rfl
  | cons x l ih => simp [flat, List.flatMap_cons] at *; omega
theorem flat_at (l : List Sp) : ∀ k, k < l.length → (flat l)[k * 2]? = some (.int .i64 (fr l k)) ∧ (flat l)[k * 2 + 1]? = some (.int .i64 (tt l k)) := by
  induction l with
  | nil => intro k hk; simp at hk
  | cons x l ih =>
    intro k hk
    cases k with
    | zero => simp [flat, fr, tt]
    | succ k =>
      have := ih k (by simpa using hk)
      simp only [flat, List.flatMap_cons, fr, tt, List.getD_cons_succ] at *
      have e1 : (k + 1) * 2 = k * 2 + 2 := by omega
      rw [e1]
      simpa using this

def OwnSp (w : World) (base : Nat) (A : Option Addr) (c : Nat) (l : List Sp) : Prop := w.ownsRow base 40 2 (.slice A l.length c) l.length (flat l)

theorem OwnSp.reads {w : World} {base : Nat} {A : Option Addr} {c : Nat} {l : List Sp} (h : OwnSp w base A c l) : SpsR w A l := fun hl => by
  rcases h.2 with ⟨_, h0⟩ | ⟨g, cap, cur, hv, _, hh, _⟩
  · omega
  · injection hv with hA
    refine ⟨g, 0, hA, fun k hk => ?_⟩
    have hc := h.cells (g := g) (by rw [hA]; rfl)
    have e := flat_at l k hk
    have e1 := hc _ _ e.1
    have e2 := hc _ _ e.2
    have ha : ∀ j, (⟨g, 0, none⟩ : Addr).add j = ⟨g, 0 + j, none⟩ := fun j => by unfold Addr.add; by_cases hj : j = 0 <;> simp [hj]
    rw [ha] at e1 e2
    exact ⟨e1, by rw [Nat.add_assoc]; exact e2⟩

theorem OwnSp.alloc {w : World} {base : Nat} {A : Option Addr} {c : Nat} {l : List Sp} (h : OwnSp w base A c l) (o : Obj) : OwnSp (w.alloc o) base A c l := World.ownsRow.alloc h o
theorem OwnSp.nil (w : World) (base : Nat) : OwnSp w base none 0 [] := World.ownsRow_nil w base _ 2
theorem OwnSp.blk {w : World} {base : Nat} {A : Option Addr} {c : Nat} {l : List Sp} (h : OwnSp w base A c l) : ∀ k, (Value.slice A l.length c).ownBlock = some k → base ≤ k ∧ k < w.heap.size := World.ownsRow.lt h
theorem OwnSp.ge {w : World} {base : Nat} {A : Option Addr} {c : Nat} {l : List Sp} (h : OwnSp w base A c l) : From base A := fun ad e => (h.blk ad.block (by rw [e]; rfl)).1
/-- a store into another block -/
theorem OwnSp.far {w : World} {base : Nat} {A : Option Addr} {c : Nat} {l : List Sp} (h : OwnSp w base A c l) {p : Addr} (hp : (Value.slice A l.length c).ownBlock ≠ some p.block) (u : Value) : OwnSp (w.setCell p u) base A c l := by
  obtain ⟨h1, h2⟩ := h
  refine ⟨h1, ?_⟩
  rcases h2 with h2 | ⟨g, cap, cur, hv, hg, hh, r⟩
  · exact Or.inl h2
  · exact Or.inr ⟨g, cap, cur, hv, hg, by rw [Below.heap_setCell _ _ _ _ (fun e => hp (by rw [hv, ← e]; rfl))]; exact hh, r⟩
theorem OwnSp.farlt {w : World} {base : Nat} {A : Option Addr} {c : Nat} {l : List Sp} (h : OwnSp w base A c l) {p : Addr} (hp : p.block < base) (u : Value) : OwnSp (w.setCell p u) base A c l :=
  h.far (fun e => by have := (h.blk _ e).1; omega) u
theorem OwnSp.below {w w' : World} {base : Nat} {A : Option Addr} {c : Nat} {l : List Sp} (h : OwnSp w base A c l) (hb : Below w.heap.size w w') : OwnSp w' base A c l := by
  obtain ⟨h1, h2⟩ := h
  refine ⟨h1, ?_⟩
  rcases h2 with h2 | ⟨g, cap, cur, hv, hg, hh, r⟩
  · exact Or.inl h2
  · refine Or.inr ⟨g, cap, cur, hv, hg, ?_, r⟩
    rw [hb.block g ?_]
    · exact hh
    · rcases Nat.lt_or_ge g w.heap.size with h | h
      · exact h
      · rw [Array.getElem?_eq_none h] at hh; cases hh

theorem span_info : (Try.prog.info? 40).map (fun i => (i.zero, i.size, i.bytes)) = some (some (.agg #[.int .i64 0, .int .i64 0]), 2, 16) := by kernel_rfl

theorem addr_one (g o : Nat) : (⟨g, o, none⟩ : Addr).add 1 = ⟨g, o + 1, none⟩ := rfl

theorem wpList_append_span {ops : Array Oper} {rest : List Oper} {o : Oper} {a : Act} {w : World} {Q : Exit → Act → World → Prop} (hgd : o.guard = none) (s x : Operand)
    (ho : o.op = .call { callee := .builtin .append, args := #[s, x], argTypes := #[22, 22] })
    (base : Nat) (A : Option Addr) (c : Nat) (l : List Sp) (hs : a.eval s = .slice A l.length c) (hown : OwnSp w base A c l)
    (g off c' : Nat) (u v : Int) (hx : a.eval x = .slice (some ⟨g, off, none⟩) 1 c') (h0 : w.cell? ⟨g, off, none⟩ = some (.int .i64 u)) (h1 : w.cell? ⟨g, off + 1, none⟩ = some (.int .i64 v))
    (hlen : l.length ≤ 1099511627776) (hbase : base ≤ w.heap.size)
    (h : ∀ A' c' w', OwnSp w' base A' c' (l ++ [(u, v)]) → w.grownBy w' (Value.slice A l.length c).ownBlock → wpList Try.prog ops Q rest (a.put o.dst (.slice A' (l.length + 1) c')) w') : wpList Try.prog ops Q (o :: rest) a w := by
  obtain ⟨i0, hi0, hz0, hz1, hz2⟩ := info_parts span_info
  refine wpList_append_own w hgd s x 22 ho base 40 i0 _ 2 16 (by kernel_rfl) hi0 hz0 hz1 hz2 rfl (by decide) _ l.length (flat l) hs hown ⟨g, off, none⟩ 1 c' [.int .i64 u, .int .i64 v] hx rfl ?_ (by simp [Value.oneCell'])
    (by simp only [maxLen]; omega) (by omega) hbase ?_
  · intro j y hj
    match j, hj with
    | 0, hj => simp at hj; subst hj; exact h0
    | 1, hj => simp at hj; subst hj; exact h1
  · intro v' w' h2 h3 _
    have h4 : w'.ownsRow base 40 2 v' (l ++ [(u, v)]).length (flat (l ++ [(u, v)])) := by rw [flat_snoc]; simpa using h2
    have hv : ∃ A' c', v' = .slice A' (l ++ [(u, v)]).length c' := by
      rcases h4.2 with ⟨_, h0⟩ | ⟨g, cap, cur, hv, _⟩
      · simp at h0
      · exact ⟨_, _, hv⟩
    obtain ⟨A', c1, rfl⟩ := hv
    have := h A' c1 w' h4 h3
    simpa using this

/-- the same as one step of a region that draws -/
theorem step_append_span {ops : Array Oper} {o : Oper} {a : Act} {w : World} {K : Act → World → Prop} {Q : Exit → Act → World → Prop} {E : Prop} (hgd : o.guard = none) (s x : Operand)
    (ho : o.op = .call { callee := .builtin .append, args := #[s, x], argTypes := #[22, 22] })
    (base : Nat) (A : Option Addr) (c : Nat) (l : List Sp) (hs : a.eval s = .slice A l.length c) (hown : OwnSp w base A c l)
    (g off c' : Nat) (u v : Int) (hx : a.eval x = .slice (some ⟨g, off, none⟩) 1 c') (h0 : w.cell? ⟨g, off, none⟩ = some (.int .i64 u)) (h1 : w.cell? ⟨g, off + 1, none⟩ = some (.int .i64 v))
    (hlen : l.length ≤ 1099511627776) (hbase : base ≤ w.heap.size)
    (h : ∀ A' c' w', OwnSp w' base A' c' (l ++ [(u, v)]) → w.grownBy w' (Value.slice A l.length c).ownBlock → K (a.put o.dst (.slice A' (l.length + 1) c')) w') :
    if Region.wanted o (yielded ops a.tmps) = true then Oper.wp Try.prog o a w K Q else E := by
  have hw : Region.wanted o (yielded ops a.tmps) = true := by simp [Region.wanted, hgd]
  rw [if_pos hw]
  obtain ⟨i0, hi0, hz0, hz1, hz2⟩ := info_parts span_info
  refine wp_append_own w s x 22 ho base 40 i0 _ 2 16 (by kernel_rfl) hi0 hz0 hz1 hz2 rfl (by decide) _ l.length (flat l) hs hown ⟨g, off, none⟩ 1 c' [.int .i64 u, .int .i64 v] hx rfl ?_ (by simp [Value.oneCell'])
    (by simp only [maxLen]; omega) (by omega) hbase ?_
  · intro j y hj
    match j, hj with
    | 0, hj => simp at hj; subst hj; exact h0
    | 1, hj => simp at hj; subst hj; exact h1
  · intro v' w' h2 h3 _
    have h4 : w'.ownsRow base 40 2 v' (l ++ [(u, v)]).length (flat (l ++ [(u, v)])) := by rw [flat_snoc]; simpa using h2
    have hv : ∃ A' c', v' = .slice A' (l ++ [(u, v)]).length c' := by
      rcases h4.2 with ⟨_, h0⟩ | ⟨g, cap, cur, hv, _⟩
      · simp at h0
      · exact ⟨_, _, hv⟩
    obtain ⟨A', c1, rfl⟩ := hv
    have := h A' c1 w' h4 h3
    simpa using this

/-! integers -/
def ints (l : List Int) : List Value := l.map (Value.int .i64)
theorem ints_snoc (l : List Int) (x : Int) : ints (l ++ [x]) = ints l ++ [.int .i64 x] := by simp [ints]
def OwnI (w : World) (base : Nat) (A : Option Addr) (c : Nat) (l : List Int) : Prop := w.ownsRow base 3 1 (.slice A l.length c) l.length (ints l)

theorem OwnI.reads {w : World} {base : Nat} {A : Option Addr} {c : Nat} {l : List Int} (h : OwnI w base A c l) : IntsR w A l := fun hl => by
  rcases h.2 with ⟨_, h0⟩ | ⟨g, cap, cur, hv, _, hh, _⟩
  · omega
  · injection hv with hA
    refine ⟨g, 0, hA, fun k hk => ?_⟩
    have hc := h.cells (g := g) (by rw [hA]; rfl)
    have e : (ints l)[k]? = some (.int .i64 (iat l k)) := by simp [ints, iat, List.getD_eq_getElem?_getD, List.getElem?_eq_getElem hk]
    have e1 := hc _ _ e
    have ha : ∀ j, (⟨g, 0, none⟩ : Addr).add j = ⟨g, 0 + j, none⟩ := fun j => by unfold Addr.add; by_cases hj : j = 0 <;> simp [hj]
    rw [ha] at e1
    exact e1
theorem OwnI.alloc {w : World} {base : Nat} {A : Option Addr} {c : Nat} {l : List Int} (h : OwnI w base A c l) (o : Obj) : OwnI (w.alloc o) base A c l := World.ownsRow.alloc h o
theorem OwnI.nil (w : World) (base : Nat) : OwnI w base none 0 [] := World.ownsRow_nil w base _ 1
theorem OwnI.blk {w : World} {base : Nat} {A : Option Addr} {c : Nat} {l : List Int} (h : OwnI w base A c l) : ∀ k, (Value.slice A l.length c).ownBlock = some k → base ≤ k ∧ k < w.heap.size := World.ownsRow.lt h

theorem int_info : (Try.prog.info? 3).map (fun i => (i.zero, i.size, i.bytes)) = some (some (.int .i64 0), 1, 8) := by kernel_rfl

theorem wpList_append_int {ops : Array Oper} {rest : List Oper} {o : Oper} {a : Act} {w : World} {Q : Exit → Act → World → Prop} (hgd : o.guard = none) (s x : Operand)
    (ho : o.op = .call { callee := .builtin .append, args := #[s, x], argTypes := #[50, 50] })
    (base : Nat) (A : Option Addr) (c : Nat) (l : List Int) (hs : a.eval s = .slice A l.length c) (hown : OwnI w base A c l)
    (g off c' : Nat) (u : Int) (hx : a.eval x = .slice (some ⟨g, off, none⟩) 1 c') (h0 : w.cell? ⟨g, off, none⟩ = some (.int .i64 u))
    (hlen : l.length ≤ 1099511627776) (hbase : base ≤ w.heap.size)
    (h : ∀ A' c' w', OwnI w' base A' c' (l ++ [u]) → w.grownBy w' (Value.slice A l.length c).ownBlock → wpList Try.prog ops Q rest (a.put o.dst (.slice A' (l.length + 1) c')) w') : wpList Try.prog ops Q (o :: rest) a w := by
  obtain ⟨i0, hi0, hz0, hz1, hz2⟩ := info_parts int_info
  refine wpList_append_own w hgd s x 50 ho base 3 i0 _ 1 8 (by kernel_rfl) hi0 hz0 hz1 hz2 rfl (by decide) _ l.length (ints l) hs hown ⟨g, off, none⟩ 1 c' [.int .i64 u] hx rfl ?_ (by simp [Value.oneCell'])
    (by simp only [maxLen]; omega) (by omega) hbase ?_
  · intro j y hj
    match j, hj with
    | 0, hj => simp at hj; subst hj; exact h0
  · intro v' w' h2 h3 _
    have h4 : w'.ownsRow base 3 1 v' (l ++ [u]).length (ints (l ++ [u])) := by rw [ints_snoc]; simpa using h2
    have hv : ∃ A' c', v' = .slice A' (l ++ [u]).length c' := by
      rcases h4.2 with ⟨_, h0⟩ | ⟨g, cap, cur, hv, _⟩
      · simp at h0
      · exact ⟨_, _, hv⟩
    obtain ⟨A', c1, rfl⟩ := hv
    have := h A' c1 w' h4 h3
    simpa using this
end Go.Proofs.Ytebkfbkgmbgobaa
