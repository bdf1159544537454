/-
  Words for memory that all walks share: later worlds, a drawn region whose callees make memory, a slice of spans, of integers, that reads as a list. No program here.
-/
import Derived.WalkKit
import Derived.WalkSpells
import Derived.WalkLawsBesides
import Derived.BigQuiet
import Derived.Lib.Hide
import Derived.Deep.QuietTactic
namespace Go.Proofs.YtmnhfaaaaejpaaaGreat
open Go.RowKit Go.BigFrame

theorem ret_bool {a b : Bool} (h : a = b) : Ending.returned (.bool a) = .returned (.bool b) := by rw [h]
theorem ret_int {k : IntKind} {a b : Int} (h : a = b) : Ending.returned (.int k a) = .returned (.int k b) := by rw [h]
theorem ret_t2 {k1 k2 : IntKind} {a b a' b' : Int} (h1 : a = a') (h2 : b = b') : Ending.returned (.tuple #[.int k1 a, .int k2 b]) = .returned (.tuple #[.int k1 a', .int k2 b']) := by rw [h1, h2]
theorem ret_t3 {k1 k2 k3 : IntKind} {a b c a' b' c' : Int} (h1 : a = a') (h2 : b = b') (h3 : c = c') : Ending.returned (.tuple #[.int k1 a, .int k2 b, .int k3 c]) = .returned (.tuple #[.int k1 a', .int k2 b', .int k3 c']) := by rw [h1, h2, h3]
theorem val_int {k : IntKind} {a b : Int} (h : a = b) : Value.int k a = .int k b := by rw [h]
theorem val_bool {a b : Bool} (h : a = b) : Value.bool a = .bool b := by rw [h]

/-- a later world: as W was below W's own size -/
def Bw (W : World) : Type := {w' : World // Below W.heap.size W w'}

instance Bw.non (W : World) : Nonempty (Bw W) := ⟨⟨W, Below.refl _ _⟩⟩

theorem Bw.cell {W : World} (z : Bw W) {p : Addr} {v : Value} (h : W.cell? p = some v) : z.1.cell? p = some v :=
  (z.2.cell (World.block_lt_of_cell? W p h)).trans h

theorem Bw.old {W w : World} (z : Bw W) (hb : Below w.heap.size w W) {p : Addr} {v : Value} (h : w.cell? p = some v) : z.1.cell? p = some v :=
  z.cell ((hb.cell (World.block_lt_of_cell? w p h)).trans h)

theorem old_cell {w w' : World} (hb : Below w.heap.size w w') {p : Addr} {v : Value} (h : w.cell? p = some v) : w'.cell? p = some v :=
  (hb.cell (World.block_lt_of_cell? w p h)).trans h

theorem below_up {B : Nat} {a w w' : World} (h : Below B a w) (h' : Below w.heap.size w w') (hB : B ≤ w.heap.size) : Below B a w' := h.trans (h'.mono hB)
/-- two calls in a row -/
theorem below_next {a w w' : World} (h : Below a.heap.size a w) (h' : Below w.heap.size w w') : Below a.heap.size a w' := h.trans (h'.mono h.size)

theorem bcell {W w1 : World} (hb : Below W.heap.size W w1) : (∀ b o, b < W.heap.size → w1.cell? ⟨b, o, none⟩ = W.cell? ⟨b, o, none⟩) ∧ (∀ b o, b < W.heap.size → w1.frozen? ⟨b, o, none⟩ = W.frozen? ⟨b, o, none⟩) :=
  ⟨fun b o h => hb.cell (p := ⟨b, o, none⟩) h, fun b o h => hb.frozen (p := ⟨b, o, none⟩) h⟩

theorem wp_region_below {P : Program} {id : Nat} {Q : Exit → Act → World → Prop} {a : Act} {w : World} {l : List Oper} (hm : P.follows .mixedOrders = true) (hB : Region.lexB .any l.toArray = true)
    (h : ∀ W, W = w → wpQuiet P l.toArray (fun w' => ∃ z : Bw W, w' = z.1) (fun a' => ∀ w', (∃ z : Bw W, w' = z.1) → Q .normal a' w') l a) : (Code.region id l.toArray true).wp P Q a w :=
  wp_region_quiet (C := fun w' => ∃ z : Bw w, w' = z.1) hm hB ⟨⟨_, (Below.refl _ _).drew⟩, rfl⟩ (by simpa using h w rfl)

theorem quiet_b {P : Program} {f : FuncId} {args : Array Value} {W : World} {z : Bw W} {v : Value}
    (h : Calls P f args z.1 fun e w' => e = .returned v ∧ Below z.1.heap.size z.1 w') : Calls P f args z.1 fun e w'' => e = .returned v ∧ ∃ z' : Bw W, w'' = z'.1 :=
  h.mono fun _ w' ⟨he, hm⟩ => ⟨he, ⟨w', z.2.trans (hm.mono z.2.size)⟩, rfl⟩

theorem below_drewN {B : Nat} {a w : World} (h : Below B a w) (n : Nat) : Below B a (w.drewN n) := ⟨h.os, h.tape, h.output, h.size, h.block⟩
/-- draws alone: a later world -/
theorem calls_b {P : Program} {f : FuncId} {args : Array Value} {w : World} {p : Ending → Prop} (h : Calls P f args w fun e w' => p e ∧ ∃ n, w' = w.drewN n) : Calls P f args w fun e w' => p e ∧ Below w.heap.size w w' :=
  h.mono fun _ _ ⟨he, n, hm⟩ => ⟨he, by rw [hm]; exact below_drewN (Below.refl _ _) n⟩

theorem quiet_d {P : Program} {f : FuncId} {args : Array Value} {W : World} {z : Bw W} {v : Value}
    (h : Calls P f args z.1 fun e w' => e = .returned v ∧ ∃ n, w' = z.1.drewN n) : Calls P f args z.1 fun e w'' => e = .returned v ∧ ∃ z' : Bw W, w'' = z'.1 :=
  h.mono fun _ _ ⟨he, n, hm⟩ => ⟨he, ⟨z.1.drewN n, ⟨z.2.os, z.2.tape, z.2.output, z.2.size, z.2.block⟩⟩, hm⟩

theorem quiet_s {P : Program} {f : FuncId} {args : Array Value} {W : World} {z : Bw W} {v : Value}
    (h : Calls P f args z.1 fun e w' => e = .returned v ∧ z.1 = w') : Calls P f args z.1 fun e w'' => e = .returned v ∧ ∃ z' : Bw W, w'' = z'.1 :=
  h.mono fun _ _ ⟨he, hm⟩ => ⟨he, z, hm.symm⟩

theorem nat_beq (a b : Nat) : ((a : Int) == (b : Int)) = (a == b) := by rw [Bool.eq_iff_iff]; simp; omega
theorem allLt_succ {p : Nat → Prop} {k : Nat} (h : ∀ j, j < k → p j) (hk : p k) : ∀ j, j < k + 1 → p j := fun j hj => by
  rcases Nat.lt_succ_iff_lt_or_eq.1 hj with h1 | h1
  · exact h j h1
  · rw [h1]; exact hk

/-- block g is just these cells, none of them frozen -/
def Blk (w : World) (g : Nat) (t : TypeId) (cs : Array Value) : Prop := w.heap[g]? = some (.cells cs t (0, 0))
section
variable {w w' : World} {g : Nat} {t : TypeId} {cs : Array Value}
theorem Blk.lt (h : Blk w g t cs) : g < w.heap.size := by
  rcases Nat.lt_or_ge g w.heap.size with h' | h'
  · exact h'
  · unfold Blk at h; rw [Array.getElem?_eq_none h'] at h; cases h
theorem Blk.cell (h : Blk w g t cs) (i : Nat) : w.cell? ⟨g, i, none⟩ = cs[i]? := cell_of_row w g i cs t (0, 0) h
theorem Blk.frozen (h : Blk w g t cs) (i : Nat) : w.frozen? ⟨g, i, none⟩ = false := by
  unfold Blk at h; simp [World.frozen?, h]
theorem Blk.new (w : World) (t : TypeId) (cs : Array Value) : Blk (w.alloc (.cells cs t)) w.heap.size t cs := heap_alloc_new w _
theorem Blk.drewN (h : Blk w g t cs) (n : Nat) : Blk (w.drewN n) g t cs := h
theorem Blk.alloc (h : Blk w g t cs) (o : Obj) : Blk (w.alloc o) g t cs := (Below.heap_alloc w o g h.lt).trans h
theorem Blk.put (h : Blk w g t cs) (i : Nat) (u : Value) : Blk (w.setCell ⟨g, i, none⟩ u) g t (cs.setIfInBounds i u) := by
  unfold Blk at h ⊢; simp [World.setCell, Array.getElem?_modify, h]
theorem Blk.far (h : Blk w g t cs) {p : Addr} (hp : g ≠ p.block) (u : Value) : Blk (w.setCell p u) g t cs := (Below.heap_setCell w p u g hp).trans h
theorem Blk.below (h : Blk w g t cs) (hb : Below w.heap.size w w') : Blk w' g t cs := (hb.block g h.lt).trans h
theorem Blk.grown {row : Option Nat} (h : Blk w g t cs) (hb : w.grownBy w' row) (hg : row ≠ some g) : Blk w' g t cs := (hb.block g h.lt (fun e => hg e.symm)).trans h
end

/-! spans -/
abbrev Sp := Int × Int
def fr (l : List Sp) (k : Nat) : Int := (l.getD k (0, 0)).1
def tt (l : List Sp) (k : Nat) : Int := (l.getD k (0, 0)).2
/-- an integer of a list, by its index -/
def iat (l : List Int) (k : Nat) : Int := l.getD k 0

/-- the slice at address A reads as the list l -/
def SpsR (w : World) (A : Option Addr) (l : List Sp) : Prop :=
  0 < l.length → ∃ b o, A = some ⟨b, o, none⟩ ∧ ∀ k, k < l.length → w.cell? ⟨b, o + k * 2, none⟩ = some (.int .i64 (fr l k)) ∧ w.cell? ⟨b, o + k * 2 + 1, none⟩ = some (.int .i64 (tt l k))

theorem SpsR.below {w w' : World} {A : Option Addr} {l : List Sp} (h : SpsR w A l) (hb : Below w.heap.size w w') : SpsR w' A l := fun hl => by
  obtain ⟨b, o, e, hc⟩ := h hl
  exact ⟨b, o, e, fun k hk => ⟨old_cell hb (hc k hk).1, old_cell hb (hc k hk).2⟩⟩

/-- the slice lies from block B on -/
def From (B : Nat) (A : Option Addr) : Prop := ∀ ad, A = some ad → B ≤ ad.block
theorem From.mono {B B' : Nat} {A : Option Addr} (h : From B A) (hB : B' ≤ B) : From B' A := fun ad e => Nat.le_trans hB (h ad e)
theorem SpsR.far {w : World} {A : Option Addr} {l : List Sp} (h : SpsR w A l) {B : Nat} (hf : From B A) {p : Addr} (hp : p.block < B) (u : Value) : SpsR (w.setCell p u) A l := fun hl => by
  obtain ⟨b, o, e, hc⟩ := h hl
  have hb := hf _ e
  have hb' : B ≤ b := hb
  refine ⟨b, o, e, fun k hk => ?_⟩
  rw [World.cell?_setCell_other _ _ _ _ (fun e => by rw [e] at hp; simp at hp; omega), World.cell?_setCell_other _ _ _ _ (fun e => by rw [e] at hp; simp at hp; omega)]
  exact hc k hk
theorem SpsR.alloc {w : World} {A : Option Addr} {l : List Sp} (h : SpsR w A l) (o : Obj) : SpsR (w.alloc o) A l := h.below ((Below.refl _ _).alloc (Nat.le_refl _) _)

theorem SpsR.take {w : World} {A : Option Addr} {l : List Sp} (h : SpsR w A l) (m : Nat) : SpsR w A (l.take m) := fun hl => by
  rw [List.length_take] at hl
  obtain ⟨b, o, e, hc⟩ := h (by omega)
  refine ⟨b, o, e, fun k hk => ?_⟩
  rw [List.length_take] at hk
  have e1 : (l.take m).getD k (0, 0) = l.getD k (0, 0) := by simp [show k < m by omega]
  simp only [fr, tt, e1]
  exact hc k (by omega)

def IntsR (w : World) (A : Option Addr) (l : List Int) : Prop :=
  0 < l.length → ∃ b o, A = some ⟨b, o, none⟩ ∧ ∀ k, k < l.length → w.cell? ⟨b, o + k, none⟩ = some (.int .i64 (iat l k))

theorem IntsR.below {w w' : World} {A : Option Addr} {l : List Int} (h : IntsR w A l) (hb : Below w.heap.size w w') : IntsR w' A l := fun hl => by
  obtain ⟨b, o, e, hc⟩ := h hl
  exact ⟨b, o, e, fun k hk => old_cell hb (hc k hk)⟩

end Go.Proofs.YtmnhfaaaaejpaaaGreat
