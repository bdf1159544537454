/-
  A symbolic run of Go's code over named blocks: values, blocks, and what such a state stands for. No program here.
-/
import Derived.Test.YtmnhfaaaaejpaaaGreatBase
import Derived.Laws.AppendOwn
import Derived.OneCell
import Derived.RangeFuncOwn
namespace Go.Proofs.YtmnhfaaaaejpaaaGreat
open Go.RowKit

/-- kinds of elements of slices -/
inductive El where
  | i1 | i2 | i3 | i4 | b1 | c1 | v1
abbrev El.T : El → Type
  | .i1 => Int
  | .i2 => Int × Int
  | .i3 => Int × Int × Int
  | .i4 => Int × Int × Int × Int
  | .b1 => Bool
  | .c1 => Int
  | .v1 => List Int

/-- a cell: an integer, a bool, a pointer to a cell of block i, to a cell of an element of slice i, slice i, a function with captured blocks, anything -/
inductive Ce where
  | int (k : IntKind) (n : Int)
  | bool (b : Bool)
  | ptr (i o : Nat)
  | ept (i k f : Nat)
  | sl (i : Nat)
  | asl (i n : Nat)
  | fn (f : Nat) (caps : List Nat)
  | raw (v : Value)
  | mpt (i k : Nat)
  | rw (i k : Nat)
  | rpt (i k j : Nat)

def El.sz : El → Nat
  | .i1 => 1 | .i2 => 2 | .i3 => 3 | .i4 => 4 | .b1 => 1 | .c1 => 1 | .v1 => 1
def El.cells : (e : El) → e.T → List Ce
  | .i1, (n : Int) => [.int .i64 n]
  | .i2, (p : Int × Int) => [.int .i64 p.1, .int .i64 p.2]
  | .i3, (p : Int × Int × Int) => [.int .i64 p.1, .int .i64 p.2.1, .int .i64 p.2.2]
  | .i4, (p : Int × Int × Int × Int) => [.int .i64 p.1, .int .i64 p.2.1, .int .i64 p.2.2.1, .int .i64 p.2.2.2]
  | .b1, (b : Bool) => [.bool b]
  | .c1, (n : Int) => [.int .i8 n]
  | .v1, _ => [.raw .nilFunc]
def El.vals : (e : El) → e.T → List Value
  | .i1, (n : Int) => [.int .i64 n]
  | .i2, (p : Int × Int) => [.int .i64 p.1, .int .i64 p.2]
  | .i3, (p : Int × Int × Int) => [.int .i64 p.1, .int .i64 p.2.1, .int .i64 p.2.2]
  | .i4, (p : Int × Int × Int × Int) => [.int .i64 p.1, .int .i64 p.2.1, .int .i64 p.2.2.1, .int .i64 p.2.2.2]
  | .b1, (b : Bool) => [.bool b]
  | .c1, (n : Int) => [.int .i8 n]
  | .v1, _ => [.nilFunc]
def back1 : List Ce → Option Int
  | [.int .i64 a] => some a
  | _ => none
def back2 : List Ce → Option (Int × Int)
  | [.int .i64 a, .int .i64 b] => some (a, b)
  | _ => none
def back3 : List Ce → Option (Int × Int × Int)
  | [.int .i64 a, .int .i64 b, .int .i64 c] => some (a, b, c)
  | _ => none
def back4 : List Ce → Option (Int × Int × Int × Int)
  | [.int .i64 a, .int .i64 b, .int .i64 c, .int .i64 d] => some (a, b, c, d)
  | _ => none
def backb : List Ce → Option Bool
  | [.bool a] => some a
  | _ => none
def backc : List Ce → Option Int
  | [.int .i8 a] => some a
  | _ => none
def El.back : (e : El) → List Ce → Option e.T
  | .i1, cs => back1 cs
  | .i2, cs => back2 cs
  | .i3, cs => back3 cs
  | .i4, cs => back4 cs
  | .b1, cs => backb cs
  | .c1, cs => backc cs
  | .v1, _ => none
def El.zero : (e : El) → e.T
  | .i1 => (0 : Int)
  | .i2 => ((0, 0) : Int × Int)
  | .i3 => ((0, 0, 0) : Int × Int × Int)
  | .i4 => ((0, 0, 0, 0) : Int × Int × Int × Int)
  | .b1 => false
  | .c1 => (0 : Int)
  | .v1 => ([] : List Int)
def El.flat (e : El) (l : List e.T) : List Value := l.flatMap e.vals

theorem El.vals_len (e : El) (x : e.T) : (e.vals x).length = e.sz := by cases e <;> rfl
theorem El.sz_pos (e : El) : 0 < e.sz := by cases e <;> decide
theorem El.vals_one (e : El) (x : e.T) : ∀ v ∈ e.vals x, v.oneCell' = true := by
  cases e <;> simp [El.vals, Value.oneCell']
theorem El.flat_len (e : El) (l : List e.T) : (e.flat l).length = l.length * e.sz := by
  induction l with
  | nil => simp [El.flat]
  | cons x l ih =>
    simp only [El.flat, List.flatMap_cons, List.length_append, List.length_cons] at *
    rw [ih, e.vals_len, Nat.succ_mul]; omega
theorem El.flat_app (e : El) (l l' : List e.T) : e.flat (l ++ l') = e.flat l ++ e.flat l' := by simp [El.flat]
theorem El.flat_one (e : El) (l : List e.T) : ∀ v ∈ e.flat l, v.oneCell' = true := by
  intro v hv
  simp only [El.flat, List.mem_flatMap] at hv
  obtain ⟨x, _, hx⟩ := hv
  exact e.vals_one x v hx
theorem El.flat_at (e : El) (l : List e.T) : ∀ k f v, k < l.length → (e.vals (l.getD k e.zero))[f]? = some v → (e.flat l)[k * e.sz + f]? = some v := by
  induction l with
  | nil => intro k f v hk; simp at hk
  | cons x l ih =>
    intro k f v hk hv
    have hf : f < e.sz := by
      have := (List.getElem?_eq_some_iff.1 hv).1
      rwa [e.vals_len] at this
    cases k with
    | zero =>
      simp only [El.flat, List.flatMap_cons, Nat.zero_mul, Nat.zero_add]
      rw [List.getElem?_append_left (by rw [e.vals_len]; exact hf)]
      simpa using hv
    | succ k =>
      have := ih k f v (by simpa using hk) (by simpa using hv)
      simp only [El.flat, List.flatMap_cons]
      rw [List.getElem?_append_right (by rw [e.vals_len, Nat.succ_mul]; omega), e.vals_len]
      have e1 : (k + 1) * e.sz + f - e.sz = k * e.sz + f := by rw [Nat.succ_mul]; omega
      rw [e1]; exact this

/-- where a block lies: address, length, capacity, cells of an element -/
structure Face where
  addr : Option Addr
  len : Nat
  cap : Nat
  sz : Nat
  rows : List Value

/-- a block: known whole; a slice that is read; a slice of the call's own; a slice that was -/
inductive Ch where
  | blk (g : Nat) (T : TypeId) (cs : List Ce)
  | arr (q : Bool) (A : Option Addr) (cap : Nat) (e : El) (l : List e.T)
  | own (A : Option Addr) (cap : Nat) (T : TypeId) (e : El) (l : List e.T)
  | ro (g : Nat) (T : TypeId) (cs : List Ce)
  | gone (f : Face)
  | ful (A : Option Addr) (e : El) (l : List e.T)
  | keep (l : List (Nat × Obj))
  | mat (q : Bool) (A : Option Addr) (cap : Nat) (rs : List Value) (ll : List (List Int))
  | mtw (A : Option Addr) (cap : Nat) (T U : TypeId) (rs : List Value) (ll : List (List Int))

def Ch.face : Ch → Face
  | .blk g _ _ => ⟨some ⟨g, 0, none⟩, 0, 0, 1, []⟩
  | .arr _ A cap e l => ⟨A, l.length, cap, e.sz, []⟩
  | .own A cap _ e l => ⟨A, l.length, cap, e.sz, []⟩
  | .ro g _ _ => ⟨some ⟨g, 0, none⟩, 0, 0, 1, []⟩
  | .gone f => f
  | .ful A e l => ⟨A, l.length, l.length, e.sz, []⟩
  | .keep _ => ⟨none, 0, 0, 1, []⟩
  | .mat _ A cap rs ll => ⟨A, ll.length, cap, 1, rs⟩
  | .mtw A cap _ _ rs ll => ⟨A, ll.length, cap, 1, rs⟩

abbrev Faces := List Face

def ptrAt (fs : Faces) (i j : Nat) : Option Value :=
  match fs[i]? with
  | some ⟨some a, _, _, _, _⟩ => some (.pointer (some ⟨a.block, a.off + j, none⟩))
  | _ => none
def eptAt (fs : Faces) (i k f : Nat) : Option Value :=
  match fs[i]? with
  | some ⟨some a, _, _, s, _⟩ => some (.pointer (some ⟨a.block, a.off + k * s + f, none⟩))
  | _ => none

/-- a row, a pointer to one of its cells -/
def rowAt (fs : Faces) (i k : Nat) : Option Value :=
  match fs[i]? with
  | some f => f.rows[k]?
  | none => none
def rptAt (fs : Faces) (i k j : Nat) : Option Value :=
  match rowAt fs i k with
  | some (.slice (some a) _ _) => some (.pointer (some ⟨a.block, a.off + j, none⟩))
  | _ => none

def allv {α : Type} : List (Option α) → Option (List α)
  | [] => some []
  | none :: _ => none
  | some x :: l => match allv l with
    | some r => some (x :: r)
    | none => none

def Ce.val (fs : Faces) : Ce → Option Value
  | .int k n => some (.int k n)
  | .bool b => some (.bool b)
  | .ptr i o => ptrAt fs i o
  | .ept i k f => eptAt fs i k f
  | .sl i => match fs[i]? with
    | some f => some (.slice f.addr f.len f.cap)
    | none => none
  | .asl i n => match fs[i]? with
    | some ⟨some a, _, _, _, _⟩ => some (.slice (some a) n n)
    | _ => none
  | .fn f caps => match allv (caps.map fun i => ptrAt fs i 0) with
    | some l => some (.func (.func f) #[] l.toArray)
    | none => none
  | .raw v => some v
  | .mpt i k => ptrAt fs i k
  | .rw i k => rowAt fs i k
  | .rpt i k j => rptAt fs i k j

def vals (fs : Faces) (cs : List Ce) : Option (List Value) := allv (cs.map (Ce.val fs))

/-- a component of a tuple -/
inductive TE where
  | one (c : Ce)
  | many (l : List Ce)
def TE.val (fs : Faces) : TE → Option Value
  | .one c => c.val fs
  | .many l => match vals fs l with
    | some vs => some (.agg vs.toArray)
    | none => none

inductive AV where
  | c (x : Ce)
  | agg (l : List Ce)
  | tup (l : List TE)
  | junk
def AV.val (fs : Faces) : AV → Option Value
  | .c x => x.val fs
  | .agg l => match vals fs l with
    | some vs => some (.agg vs.toArray)
    | none => none
  | .tup l => match allv (l.map (TE.val fs)) with
    | some vs => some (.tuple vs.toArray)
    | none => none
  | .junk => none
def AV.rel (fs : Faces) (a : AV) (v : Value) : Prop := a = .junk ∨ a.val fs = some v

/-! more blocks: the values stay -/
def FsLe (fs fs' : Faces) : Prop := ∀ (i : Nat) (f : Face), fs[i]? = some f → fs'[i]? = some f
theorem FsLe.refl (fs : Faces) : FsLe fs fs := fun _ _ h => h
theorem FsLe.trans {a b c : Faces} (h : FsLe a b) (h' : FsLe b c) : FsLe a c := fun i f e => h' i f (h i f e)
theorem FsLe.app (fs fs' : Faces) : FsLe fs (fs ++ fs') := fun i f h => by
  rw [List.getElem?_append_left (List.getElem?_eq_some_iff.1 h).1]; exact h

theorem allv_mono {α β : Type} {f g : α → Option β} (h : ∀ x v, f x = some v → g x = some v) : ∀ {l : List α} {r : List β}, allv (l.map f) = some r → allv (l.map g) = some r := by
  intro l
  induction l with
  | nil => intro r hr; exact hr
  | cons x l ih =>
    intro r hr
    simp only [List.map_cons] at hr ⊢
    cases hx : f x with
    | none => rw [hx] at hr; simp [allv] at hr
    | some v =>
      rw [hx] at hr
      rw [h _ _ hx]
      simp only [allv] at hr ⊢
      cases hl : allv (l.map f) with
      | none => rw [hl] at hr; simp at hr
      | some r' => rw [hl] at hr; rw [ih hl]; exact hr
theorem ptrAt_mono {fs fs' : Faces} (h : FsLe fs fs') {i j : Nat} {v : Value} (e : ptrAt fs i j = some v) : ptrAt fs' i j = some v := by
  unfold ptrAt at e ⊢
  cases hf : fs[i]? with
  | none => rw [hf] at e; simp at e
  | some f => rw [hf] at e; rw [h _ _ hf]; exact e
theorem eptAt_mono {fs fs' : Faces} (h : FsLe fs fs') {i j k : Nat} {v : Value} (e : eptAt fs i j k = some v) : eptAt fs' i j k = some v := by
  unfold eptAt at e ⊢
  cases hf : fs[i]? with
  | none => rw [hf] at e; simp at e
  | some f => rw [hf] at e; rw [h _ _ hf]; exact e
theorem rowAt_mono {fs fs' : Faces} (h : FsLe fs fs') {i k : Nat} {v : Value} (e : rowAt fs i k = some v) : rowAt fs' i k = some v := by
  unfold rowAt at e ⊢
  cases hf : fs[i]? with
  | none => rw [hf] at e; simp at e
  | some f => rw [hf] at e; rw [h _ _ hf]; exact e
theorem rptAt_mono {fs fs' : Faces} (h : FsLe fs fs') {i k j : Nat} {v : Value} (e : rptAt fs i k j = some v) : rptAt fs' i k j = some v := by
  unfold rptAt at e ⊢
  cases hf : rowAt fs i k with
  | none => rw [hf] at e; simp at e
  | some f => rw [hf] at e; rw [rowAt_mono h hf]; exact e
theorem Ce.val_mono {fs fs' : Faces} (h : FsLe fs fs') {c : Ce} {v : Value} (e : c.val fs = some v) : c.val fs' = some v := by
  cases c with
  | int k n => exact e
  | bool b => exact e
  | raw x => exact e
  | mpt i k => exact ptrAt_mono h e
  | rw i k => exact rowAt_mono h e
  | rpt i k j => exact rptAt_mono h e
  | ptr i o => exact ptrAt_mono h e
  | ept i k f => exact eptAt_mono h e
  | sl i =>
    simp only [Ce.val] at e ⊢
    cases hf : fs[i]? with
    | none => rw [hf] at e; simp at e
    | some f => rw [hf] at e; rw [h _ _ hf]; exact e
  | asl i n =>
    simp only [Ce.val] at e ⊢
    cases hf : fs[i]? with
    | none => rw [hf] at e; simp at e
    | some f => rw [hf] at e; rw [h _ _ hf]; exact e
  | fn f caps =>
    simp only [Ce.val] at e ⊢
    cases hl : allv (caps.map fun i => ptrAt fs i 0) with
    | none => rw [hl] at e; simp at e
    | some l => rw [hl] at e; rw [allv_mono (fun _ _ => ptrAt_mono h) hl]; exact e
theorem vals_mono {fs fs' : Faces} (h : FsLe fs fs') {cs : List Ce} {vs : List Value} (e : vals fs cs = some vs) : vals fs' cs = some vs := allv_mono (fun _ _ => Ce.val_mono h) e
theorem TE.val_mono {fs fs' : Faces} (h : FsLe fs fs') {c : TE} {v : Value} (e : c.val fs = some v) : c.val fs' = some v := by
  cases c with
  | one c => exact Ce.val_mono h e
  | many l =>
    simp only [TE.val] at e ⊢
    cases hl : vals fs l with
    | none => rw [hl] at e; simp at e
    | some r => rw [hl] at e; rw [vals_mono h hl]; exact e
theorem AV.val_mono {fs fs' : Faces} (h : FsLe fs fs') {a : AV} {v : Value} (e : a.val fs = some v) : a.val fs' = some v := by
  cases a with
  | c x => exact Ce.val_mono h e
  | junk => exact e
  | agg l =>
    simp only [AV.val] at e ⊢
    cases hl : vals fs l with
    | none => rw [hl] at e; simp at e
    | some r => rw [hl] at e; rw [vals_mono h hl]; exact e
  | tup l =>
    simp only [AV.val] at e ⊢
    cases hl : allv (l.map (TE.val fs)) with
    | none => rw [hl] at e; simp at e
    | some r => rw [hl] at e; rw [allv_mono (fun _ _ => TE.val_mono h) hl]; exact e
theorem AV.rel_mono {fs fs' : Faces} (h : FsLe fs fs') {a : AV} {v : Value} (e : a.rel fs v) : a.rel fs' v := e.imp id (AV.val_mono h)

theorem allv_len {α : Type} : ∀ {l : List (Option α)} {r : List α}, allv l = some r → r.length = l.length := by
  intro l
  induction l with
  | nil => intro r h; simp [allv] at h; simp [← h]
  | cons x l ih =>
    intro r h
    cases x with
    | none => simp [allv] at h
    | some x =>
      simp only [allv] at h
      cases hl : allv l with
      | none => rw [hl] at h; simp at h
      | some r' => rw [hl] at h; simp at h; simp [← h, ih hl]
theorem allv_get {α : Type} : ∀ {l : List (Option α)} {r : List α}, allv l = some r → ∀ i : Nat, l[i]? = (r[i]?).map some := by
  intro l
  induction l with
  | nil => intro r h i; simp [allv] at h; subst h; simp
  | cons x l ih =>
    intro r h i
    cases x with
    | none => simp [allv] at h
    | some x =>
      simp only [allv] at h
      cases hl : allv l with
      | none => rw [hl] at h; simp at h
      | some r' =>
        rw [hl] at h; simp at h; subst h
        cases i with
        | zero => simp
        | succ i => simpa using ih hl i
theorem allv_mk {α : Type} : ∀ {l : List (Option α)} {r : List α}, l = r.map some → allv l = some r := by
  intro l r h
  subst h
  induction r with
  | nil => rfl
  | cons x r ih => simp [allv, ih]
theorem allv_iff {α : Type} {l : List (Option α)} {r : List α} : allv l = some r ↔ l = r.map some :=
  ⟨fun h => List.ext_getElem? fun i => by rw [allv_get h i, List.getElem?_map], allv_mk⟩
theorem vals_get {fs : Faces} {cs : List Ce} {vs : List Value} (h : vals fs cs = some vs) {i : Nat} {c : Ce} (hc : cs[i]? = some c) : ∃ v, vs[i]? = some v ∧ c.val fs = some v := by
  have := allv_get h i
  rw [List.getElem?_map, hc] at this
  cases hv : vs[i]? with
  | none => rw [hv] at this; simp at this
  | some v => rw [hv] at this; simp at this; exact ⟨v, rfl, this⟩
theorem vals_len {fs : Faces} {cs : List Ce} {vs : List Value} (h : vals fs cs = some vs) : vs.length = cs.length := by
  have := allv_len h; simpa using this
theorem El.vals_cells (e : El) (x : e.T) (fs : Faces) : Go.Proofs.YtmnhfaaaaejpaaaGreat.vals fs (e.cells x) = some (e.vals x) := by cases e <;> rfl
theorem El.back_vals {e : El} {cs : List Ce} {x : e.T} (h : e.back cs = some x) (fs : Faces) : Go.Proofs.YtmnhfaaaaejpaaaGreat.vals fs cs = some (e.vals x) := by
  have : cs = e.cells x := by
    cases e
    · simp only [El.back, back1] at h; split at h <;> cases h; rfl
    · simp only [El.back, back2] at h; split at h <;> cases h; rfl
    · simp only [El.back, back3] at h; split at h <;> cases h; rfl
    · simp only [El.back, back4] at h; split at h <;> cases h; rfl
    · simp only [El.back, backb] at h; split at h <;> cases h; rfl
    · simp only [El.back, backc] at h; split at h <;> cases h; rfl
    · cases h
  rw [this]; exact e.vals_cells x fs

/-! what holds of the blocks -/
/-- a row that is read -/
def RowOk (w : World) (v : Value) (l : List Int) : Prop := ∃ A c, v = .slice A l.length c ∧ l.length ≤ c ∧ c ≤ maxLen ∧ (0 < l.length → ∃ b o, A = some ⟨b, o, none⟩ ∧ ∀ k, k < l.length → ∀ (f : Nat) v, (El.i1.vals (l.getD k El.i1.zero))[f]? = some v → w.cell? ⟨b, o + k * El.i1.sz + f, none⟩ = some v)
/-- the rows of a matrix of the call's own lie apart -/
def RowsApart (A : Option Addr) (rs : List Value) : Prop := (∀ (k : Nat) v b, rs[k]? = some v → v.ownBlock = some b → ∀ ad, A = some ad → ad.block ≠ b) ∧ ∀ (k k' : Nat) v v' b, k ≠ k' → rs[k]? = some v → rs[k']? = some v' → v.ownBlock = some b → v'.ownBlock ≠ some b
def matTouch (A : Option Addr) (rs : List Value) (ll : List (List Int)) (b : Nat) : Prop := (0 < ll.length ∧ ∃ ad, A = some ad ∧ ad.block = b) ∨ ∃ (k : Nat) (v : Value) (l : List Int), rs[k]? = some v ∧ ll[k]? = some l ∧ 0 < l.length ∧ v.ownBlock = some b
def mtwTouch (A : Option Addr) (rs : List Value) (b : Nat) : Prop := (∃ ad, A = some ad ∧ ad.block = b) ∨ ∃ (k : Nat) (v : Value), rs[k]? = some v ∧ v.ownBlock = some b
def MatOk (w : World) (A : Option Addr) (cap : Nat) (rs : List Value) (ll : List (List Int)) : Prop :=
  rs.length = ll.length ∧ ll.length ≤ cap ∧ cap ≤ maxLen ∧ (0 < ll.length → ∃ b o, A = some ⟨b, o, none⟩ ∧ ∀ (k : Nat) v, rs[k]? = some v → w.cell? ⟨b, o + k, none⟩ = some v) ∧ ∀ (k : Nat) v l, rs[k]? = some v → ll[k]? = some l → RowOk w v l
def MtwOk (w : World) (base : Nat) (A : Option Addr) (cap : Nat) (T U : TypeId) (rs : List Value) (ll : List (List Int)) : Prop :=
  rs.length = ll.length ∧ w.ownsRow base T 1 (.slice A ll.length cap) ll.length rs ∧ (∀ (k : Nat) v l, rs[k]? = some v → ll[k]? = some l → w.ownsRow base U 1 v l.length (El.i1.flat l)) ∧ RowsApart A rs
def ChOk (B w : World) (fs : Faces) : Ch → Prop
  | .blk g T cs => ∃ vs, vals fs cs = some vs ∧ Blk w g T vs.toArray ∧ B.heap.size ≤ g ∧ ∀ v ∈ vs, v.oneCell' = true
  | .arr q A cap e l => (q = true → ∀ ad, A = some ad → 0 < l.length → B.heap.size ≤ ad.block) ∧ l.length ≤ cap ∧ cap ≤ maxLen ∧ (0 < l.length → ∃ b o, A = some ⟨b, o, none⟩ ∧ ∀ k, k < l.length → ∀ (f : Nat) v, (e.vals (l.getD k e.zero))[f]? = some v → w.cell? ⟨b, o + k * e.sz + f, none⟩ = some v)
  | .own A cap T e l => w.ownsRow B.heap.size T e.sz (.slice A l.length cap) l.length (e.flat l)
  | .ro g _ cs => ∃ vs, vals fs cs = some vs ∧ ∀ (j : Nat) u, vs[j]? = some u → w.cell? ⟨g, j, none⟩ = some u
  | .gone _ => True
  | .ful A e l => (∀ ad, A = some ad → 0 < l.length → B.heap.size ≤ ad.block) ∧ l.length ≤ maxLen ∧ (0 < l.length → ∃ b o, A = some ⟨b, o, none⟩ ∧ ∀ k, k < l.length → ∀ (f : Nat) v, (e.vals (l.getD k e.zero))[f]? = some v → w.cell? ⟨b, o + k * e.sz + f, none⟩ = some v)
  | .keep l => ∀ p ∈ l, p.1 ≤ w.heap.size ∧ (p.2.isCells = false → w.heap[p.1]? = some p.2)
  | .mat q A cap rs ll => (q = true → ∀ b, matTouch A rs ll b → B.heap.size ≤ b) ∧ MatOk w A cap rs ll
  | .mtw A cap T U rs ll => MtwOk w B.heap.size A cap T U rs ll
def Ch.wr : Ch → Bool
  | .blk .. => true
  | .own .. => true
  | .mtw .. => true
  | _ => false
def Ch.touch : Ch → Nat → Prop
  | .blk g _ _, b => b = g
  | .arr _ A _ _ l, b => 0 < l.length ∧ ∃ ad, A = some ad ∧ ad.block = b
  | .own A _ _ _ _, b => ∃ ad, A = some ad ∧ ad.block = b
  | .ro g _ cs, b => b = g ∧ 0 < cs.length
  | .gone _, _ => False
  | .ful A _ l, b => 0 < l.length ∧ ∃ ad, A = some ad ∧ ad.block = b
  | .keep l, b => ∃ o : Obj, (b, o) ∈ l ∧ o.isCells = false
  | .mat _ A _ rs ll, b => matTouch A rs ll b
  | .mtw A _ _ _ rs _, b => mtwTouch A rs b
def faces (hp : List Ch) : Faces := hp.map Ch.face
structure HOk (B : World) (hp : List Ch) (w : World) : Prop where
  bel : Below B.heap.size B w
  ok : ∀ (i : Nat) c, hp[i]? = some c → ChOk B w (faces hp) c
  sep : ∀ (i j : Nat) c d, i ≠ j → hp[i]? = some c → hp[j]? = some d → c.wr = true → ∀ b, c.touch b → ¬ d.touch b

theorem ownsRow_below {w w' : World} {base : Nat} {T : TypeId} {s n : Nat} {v : Value} {xs : List Value} (h : w.ownsRow base T s v n xs) (hb : Below w.heap.size w w') : w'.ownsRow base T s v n xs := by
  obtain ⟨h1, h2⟩ := h
  refine ⟨h1, h2.imp id fun ⟨g, cap, cur, hv, hg, hh, r⟩ => ⟨g, cap, cur, hv, hg, ?_, r⟩⟩
  rw [hb.block g (lt_of_block hh)]; exact hh
theorem cell_heap {w w' : World} {p : Addr} {v : Value} (h : w.cell? p = some v) (hk : w'.heap[p.block]? = w.heap[p.block]?) : w'.cell? p = some v := by
  rw [World.cell?_of_block hk]; exact h
theorem ownsRow_heap {w w' : World} {base : Nat} {T : TypeId} {s n : Nat} {v : Value} {xs : List Value} (h : w.ownsRow base T s v n xs) (hb : ∀ b, v.ownBlock = some b → b < w.heap.size → w'.heap[b]? = w.heap[b]?) : w'.ownsRow base T s v n xs := by
  obtain ⟨h1, h2⟩ := h
  refine ⟨h1, h2.imp id fun ⟨g, cap, cur, hv, hg, hh, r⟩ => ⟨g, cap, cur, hv, hg, ?_, r⟩⟩
  rw [hb g (by rw [hv]; rfl) (lt_of_block hh)]; exact hh
theorem RowOk.heap {w w' : World} {v : Value} {l : List Int} (h : RowOk w v l) (hb : ∀ b, 0 < l.length → v.ownBlock = some b → b < w.heap.size → w'.heap[b]? = w.heap[b]?) : RowOk w' v l := by
  obtain ⟨A, c, rfl, h1, h2, h3⟩ := h
  refine ⟨A, c, rfl, h1, h2, fun h0 => ?_⟩
  obtain ⟨b, o, rfl, hc⟩ := h3 h0
  exact ⟨b, o, rfl, fun k hk f v hv => cell_heap (hc k hk f v hv) (hb b h0 rfl (World.block_lt_of_cell? w _ (hc k hk f v hv)))⟩
theorem MatOk.heap {w w' : World} {A : Option Addr} {cap : Nat} {rs : List Value} {ll : List (List Int)} (h : MatOk w A cap rs ll) (hb : ∀ b, matTouch A rs ll b → b < w.heap.size → w'.heap[b]? = w.heap[b]?) : MatOk w' A cap rs ll := by
  obtain ⟨h1, h2, h3, h4, h5⟩ := h
  refine ⟨h1, h2, h3, fun h0 => ?_, fun k v l hk hl => (h5 k v l hk hl).heap fun b h0 hv hlt => hb b (.inr ⟨k, v, l, hk, hl, h0, hv⟩) hlt⟩
  obtain ⟨b, o, ha, hc⟩ := h4 h0
  exact ⟨b, o, ha, fun k v hk => cell_heap (hc k v hk) (hb b (.inl ⟨h0, _, ha, rfl⟩) (World.block_lt_of_cell? w _ (hc k v hk)))⟩
theorem MtwOk.heap {w w' : World} {base : Nat} {A : Option Addr} {cap : Nat} {T U : TypeId} {rs : List Value} {ll : List (List Int)} (h : MtwOk w base A cap T U rs ll) (hb : ∀ b, mtwTouch A rs b → b < w.heap.size → w'.heap[b]? = w.heap[b]?) : MtwOk w' base A cap T U rs ll := by
  obtain ⟨h1, h2, h3, h4⟩ := h
  refine ⟨h1, ownsRow_heap h2 fun b hv hlt => hb b (.inl ?_) hlt, fun k v l hk hl => ownsRow_heap (h3 k v l hk hl) fun b hv hlt => hb b (.inr ⟨k, v, hk, hv⟩) hlt, h4⟩
  cases A with
  | none => cases hv
  | some ad => exact ⟨ad, rfl, by injection hv⟩
theorem ownsRow_lt {w : World} {base : Nat} {T : TypeId} {s n : Nat} {v : Value} {xs : List Value} (h : w.ownsRow base T s v n xs) {b : Nat} (hb : v.ownBlock = some b) : base ≤ b ∧ b < w.heap.size := by
  rcases h.2 with ⟨rfl, _⟩ | ⟨g, cap, cur, rfl, hg, hh, _⟩
  · cases hb
  · have : g = b := by injection hb
    subst this
    exact ⟨hg, lt_of_block hh⟩
theorem RowOk.lt {w : World} {v : Value} {l : List Int} (h : RowOk w v l) (h0 : 0 < l.length) {b : Nat} (hb : v.ownBlock = some b) : b < w.heap.size := by
  obtain ⟨A, c, rfl, _, _, h3⟩ := h
  obtain ⟨b', o, rfl, hc⟩ := h3 h0
  have : b' = b := by injection hb
  subst this
  exact World.block_lt_of_cell? w _ (hc 0 h0 0 (.int .i64 (l.getD 0 El.i1.zero)) rfl)
theorem MatOk.lt {w : World} {A : Option Addr} {cap : Nat} {rs : List Value} {ll : List (List Int)} (h : MatOk w A cap rs ll) {b : Nat} (hb : matTouch A rs ll b) : b < w.heap.size := by
  obtain ⟨h1, h2, h3, h4, h5⟩ := h
  rcases hb with ⟨h0, ad, rfl, rfl⟩ | ⟨k, v, l, hk, hl, h0, hv⟩
  · obtain ⟨b, o, ha, hc⟩ := h4 h0
    injection ha with ha
    subst ha
    exact World.block_lt_of_cell? w _ (hc 0 _ (List.getElem?_eq_getElem (by omega)))
  · exact (h5 k v l hk hl).lt h0 hv
theorem MtwOk.lt {w : World} {base : Nat} {A : Option Addr} {cap : Nat} {T U : TypeId} {rs : List Value} {ll : List (List Int)} (h : MtwOk w base A cap T U rs ll) {b : Nat} (hb : mtwTouch A rs b) : base ≤ b ∧ b < w.heap.size := by
  obtain ⟨h1, h2, h3, h4⟩ := h
  rcases hb with ⟨ad, rfl, rfl⟩ | ⟨k, v, hk, hv⟩
  · exact ownsRow_lt h2 rfl
  · have hkl := (List.getElem?_eq_some_iff.1 hk).1
    exact ownsRow_lt (h3 k v _ hk (List.getElem?_eq_getElem (by omega))) hv
theorem ChOk.below {B w w' : World} {fs : Faces} {c : Ch} (h : ChOk B w fs c) (hb : Below w.heap.size w w') : ChOk B w' fs c := by
  cases c with
  | blk g T cs => obtain ⟨vs, h1, h2, h3⟩ := h; exact ⟨vs, h1, h2.below hb, h3⟩
  | arr q A cap e l =>
    obtain ⟨hq, h1, h2, h3⟩ := h
    refine ⟨hq, h1, h2, fun h0 => ?_⟩
    obtain ⟨b, o, ha, hc⟩ := h3 h0
    exact ⟨b, o, ha, fun k hk f v hv => old_cell hb (hc k hk f v hv)⟩
  | own A cap T e l => exact ownsRow_below h hb
  | ro g T cs => obtain ⟨vs, h1, h2⟩ := h; exact ⟨vs, h1, fun j u hj => old_cell hb (h2 j u hj)⟩
  | gone f => trivial
  | ful A e l =>
    obtain ⟨hq, h1, h3⟩ := h
    refine ⟨hq, h1, fun h0 => ?_⟩
    obtain ⟨b, o, ha, hc⟩ := h3 h0
    exact ⟨b, o, ha, fun k hk f v hv => old_cell hb (hc k hk f v hv)⟩
  | keep l => exact fun p hp => ⟨Nat.le_trans (h p hp).1 hb.size, fun hc => (hb.block p.1 (Array.getElem?_eq_some_iff.1 ((h p hp).2 hc)).1).trans ((h p hp).2 hc)⟩
  | mat q A cap rs ll => exact ⟨h.1, h.2.heap fun b _ hlt => hb.block b hlt⟩
  | mtw A cap T U rs ll => exact MtwOk.heap h fun b _ hlt => hb.block b hlt
theorem ChOk.mono {B w : World} {fs fs' : Faces} (hf : FsLe fs fs') {c : Ch} (h : ChOk B w fs c) : ChOk B w fs' c := by
  cases c with
  | blk g T cs => obtain ⟨vs, h1, h2, h3⟩ := h; exact ⟨vs, vals_mono hf h1, h2, h3⟩
  | arr q A cap e l => exact h
  | own A cap T e l => exact h
  | ro g T cs => obtain ⟨vs, h1, h2⟩ := h; exact ⟨vs, vals_mono hf h1, h2⟩
  | gone f => trivial
  | ful A e l => exact h
  | keep l => exact h
  | mat q A cap rs ll => exact h
  | mtw A cap T U rs ll => exact h
theorem Ch.touch_lt {B w : World} {fs : Faces} {c : Ch} (h : ChOk B w fs c) {b : Nat} (ht : c.touch b) : b < w.heap.size := by
  cases c with
  | blk g T cs => obtain ⟨vs, h1, h2, h3⟩ := h; have := h2.lt; have ht' : b = g := ht; omega
  | arr q A cap e l =>
    obtain ⟨_, h1, h2, h3⟩ := h
    obtain ⟨h0, ad, ha, hb⟩ := ht
    obtain ⟨b', o, ha', hc⟩ := h3 h0
    rw [ha] at ha'
    injection ha' with ha'
    subst ha'
    have hz := e.sz_pos
    have hl := e.vals_len (l.getD 0 e.zero)
    obtain ⟨v, hv⟩ : ∃ v, (e.vals (l.getD 0 e.zero))[0]? = some v := ⟨_, List.getElem?_eq_getElem (by omega)⟩
    have := World.block_lt_of_cell? w _ (hc 0 h0 0 v hv)
    rw [← hb]; exact this
  | own A cap T e l =>
    obtain ⟨ad, ha, hb⟩ := ht
    rcases h.2 with ⟨hv, _⟩ | ⟨g, cap, cur, hv, hg, hh, r⟩
    · injection hv with hv; rw [ha] at hv; cases hv
    · injection hv with hv; rw [ha] at hv; injection hv with hv; subst hv; rw [← hb]; exact lt_of_block hh
  | ro g T cs =>
    obtain ⟨vs, h1, h2⟩ := h
    obtain ⟨rfl, h0⟩ := ht
    have := vals_len h1
    exact World.block_lt_of_cell? w _ (h2 0 _ (List.getElem?_eq_getElem (by omega)))
  | gone f => exact ht.elim
  | ful A e l =>
    obtain ⟨_, h1, h3⟩ := h
    obtain ⟨h0, ad, ha, hb⟩ := ht
    obtain ⟨b', o, ha', hc⟩ := h3 h0
    rw [ha] at ha'
    injection ha' with ha'
    subst ha'
    have hz := e.sz_pos
    have hl := e.vals_len (l.getD 0 e.zero)
    obtain ⟨v, hv⟩ : ∃ v, (e.vals (l.getD 0 e.zero))[0]? = some v := ⟨_, List.getElem?_eq_getElem (by omega)⟩
    have := World.block_lt_of_cell? w _ (hc 0 h0 0 v hv)
    rw [← hb]; exact this
  | keep l => obtain ⟨o, ho, hc⟩ := ht; exact (Array.getElem?_eq_some_iff.1 ((h _ ho).2 hc)).1
  | mat q A cap rs ll => exact h.2.lt ht
  | mtw A cap T U rs ll => exact (MtwOk.lt h ht).2
theorem Ch.touch_ge {B w : World} {fs : Faces} {c : Ch} (h : ChOk B w fs c) (hw : c.wr = true) {b : Nat} (ht : c.touch b) : B.heap.size ≤ b := by
  cases c with
  | blk g T cs => obtain ⟨vs, h1, h2, h3, _⟩ := h; have ht' : b = g := ht; omega
  | arr q A cap e l => simp [Ch.wr] at hw
  | own A cap T e l =>
    obtain ⟨ad, ha, hb⟩ := ht
    rcases h.2 with ⟨hv, _⟩ | ⟨g, cap, cur, hv, hg, hh, r⟩
    · injection hv with hv; rw [ha] at hv; cases hv
    · injection hv with hv; rw [ha] at hv; injection hv with hv; subst hv; rw [← hb]; exact hg
  | ro g T cs => simp [Ch.wr] at hw
  | gone f => exact ht.elim
  | ful A e l => simp [Ch.wr] at hw
  | keep l => simp [Ch.wr] at hw
  | mat q A cap rs ll => simp [Ch.wr] at hw
  | mtw A cap T U rs ll => exact (MtwOk.lt h ht).1

theorem HOk.later {B w w' : World} {hp : List Ch} (h : HOk B hp w) (hb : Below w.heap.size w w') : HOk B hp w' :=
  ⟨h.bel.trans (hb.mono h.bel.size), fun i c hc => (h.ok i c hc).below hb, h.sep⟩

/-- a chunk more, in a later world, that touches nothing that was there -/
theorem HOk.push' {B w w' : World} {hp : List Ch} {c : Ch} (h : HOk B hp w) (hb : Below w.heap.size w w') (hc : ChOk B w' (faces (hp ++ [c])) c) (hn : ∀ b, c.touch b → ∀ (j : Nat) d, hp[j]? = some d → ¬ d.touch b) : HOk B (hp ++ [c]) w' := by
  have h' := h.later hb
  have hf : FsLe (faces hp) (faces (hp ++ [c])) := by simp only [faces, List.map_append]; exact FsLe.app _ _
  refine ⟨h'.bel, fun i d hd => ?_, fun i j d e hij hd he hw b h1 h2 => ?_⟩
  · rcases Nat.lt_or_ge i hp.length with hi | hi
    · rw [List.getElem?_append_left hi] at hd; exact (h'.ok i d hd).mono hf
    · rw [List.getElem?_append_right hi] at hd
      cases hq : i - hp.length with
      | zero => rw [hq] at hd; simp at hd; subst hd; exact hc
      | succ n => rw [hq] at hd; simp at hd
  · have key : ∀ (i : Nat) d, (hp ++ [c])[i]? = some d → (i < hp.length ∧ hp[i]? = some d) ∨ (i = hp.length ∧ d = c) := fun i d hd => by
      rcases Nat.lt_or_ge i hp.length with hi | hi
      · rw [List.getElem?_append_left hi] at hd; exact .inl ⟨hi, hd⟩
      · rw [List.getElem?_append_right hi] at hd
        cases hq : i - hp.length with
        | zero => rw [hq] at hd; simp at hd; exact .inr ⟨by omega, hd.symm⟩
        | succ n => rw [hq] at hd; simp at hd
    rcases key i d hd with ⟨hi, hd'⟩ | ⟨hi, hd'⟩ <;> rcases key j e he with ⟨hj, he'⟩ | ⟨hj, he'⟩
    · exact h.sep i j d e hij hd' he' hw b h1 h2
    · rw [he'] at h2
      exact hn b h2 i d hd' h1
    · rw [hd'] at h1
      exact hn b h1 j e he' h2
    · omega
theorem HOk.push {B w w' : World} {hp : List Ch} {c : Ch} (h : HOk B hp w) (hb : Below w.heap.size w w') (hc : ChOk B w' (faces (hp ++ [c])) c) (hn : ∀ b, c.touch b → w.heap.size ≤ b) : HOk B (hp ++ [c]) w' :=
  h.push' hb hc fun b h1 j d hj h2 => by
    have := hn b h1
    have := Ch.touch_lt (h.ok j d hj) h2
    omega

theorem HOk.blk {B w : World} {hp : List Ch} (h : HOk B hp w) (T : TypeId) {cs : List Ce} {vs : List Value} (hv : vals (faces hp) cs = some vs) (h1 : ∀ v ∈ vs, v.oneCell' = true) :
    HOk B (hp ++ [.blk w.heap.size T cs]) (w.alloc (.cells vs.toArray T)) := by
  refine h.push ((Below.refl _ _).alloc (Nat.le_refl _) _) ⟨vs, vals_mono ?_ hv, Blk.new w T vs.toArray, h.bel.size, h1⟩ (fun b hb => by have hb' : b = w.heap.size := hb; omega)
  simp only [faces, List.map_append]; exact FsLe.app _ _

/-- a chunk changed, in a world that parts from the old one in its block alone (or in blocks that are new) -/
theorem HOk.change {B w w' : World} {hp : List Ch} {i : Nat} {c c' : Ch} (h : HOk B hp w) (hi : hp[i]? = some c) (hw : c.wr = true) (hf : c'.face = c.face) (hs : w.heap.size ≤ w'.heap.size)
    (hos : w'.os = w.os) (ht : w'.tape = w.tape) (hout : w'.output = w.output) (hk : ∀ b, b < w.heap.size → ¬ c.touch b → w'.heap[b]? = w.heap[b]?)
    (htc : ∀ b, c'.touch b → c.touch b ∨ w.heap.size ≤ b) (hc : ChOk B w' (faces hp) c') : HOk B (hp.set i c') w' := by
  have hil : i < hp.length := (List.getElem?_eq_some_iff.1 hi).1
  have hfs : faces (hp.set i c') = faces hp := by
    have hd : hp[i] = c := by rw [List.getElem?_eq_getElem hil] at hi; injection hi
    simp only [faces, List.map_set, hf]
    refine List.ext_getElem? fun j => ?_
    rw [List.getElem?_set]
    split
    · rename_i e; subst e; simp [hil, hd]
    · rfl
  have hbel : ∀ d, (∀ b, d.touch b → ¬ c.touch b) → ChOk B w (faces hp) d → ChOk B w' (faces hp) d := by
    intro d hd hok
    cases d with
    | blk g T cs =>
      obtain ⟨vs, h1, h2, h3⟩ := hok
      exact ⟨vs, h1, (hk g h2.lt (hd g rfl)).trans h2, h3⟩
    | arr q A cap e l =>
      obtain ⟨hq, h1, h2, h3⟩ := hok
      refine ⟨hq, h1, h2, fun h0 => ?_⟩
      obtain ⟨b, o, ha, hcc⟩ := h3 h0
      refine ⟨b, o, ha, fun k hk' f v hv => ?_⟩
      have h4 := hcc k hk' f v hv
      have h5 := World.block_lt_of_cell? w _ h4
      have h6 : w'.cell? ⟨b, o + k * e.sz + f, none⟩ = w.cell? ⟨b, o + k * e.sz + f, none⟩ := World.cell?_of_block (hk b h5 (hd b ⟨h0, _, ha, rfl⟩))
      rw [h6]; exact h4
    | own A cap T e l =>
      obtain ⟨h1, h2⟩ := hok
      refine ⟨h1, h2.imp id fun ⟨g, cap, cur, hv, hg, hh, r⟩ => ⟨g, cap, cur, hv, hg, ?_, r⟩⟩
      injection hv with hv
      rw [hk g (lt_of_block hh) (hd g ⟨_, hv, rfl⟩)]; exact hh
    | ro g T cs =>
      obtain ⟨vs, h1, h2⟩ := hok
      refine ⟨vs, h1, fun j u hj => ?_⟩
      have h4 := h2 j u hj
      have h5 := World.block_lt_of_cell? w _ h4
      have hjl := (List.getElem?_eq_some_iff.1 hj).1
      have hvl := vals_len h1
      have h6 : w'.cell? ⟨g, j, none⟩ = w.cell? ⟨g, j, none⟩ := World.cell?_of_block (hk g h5 (hd g ⟨rfl, by omega⟩))
      rw [h6]; exact h4
    | gone f => trivial
    | ful A e l =>
      obtain ⟨hq, h1, h3⟩ := hok
      refine ⟨hq, h1, fun h0 => ?_⟩
      obtain ⟨b, o, ha, hcc⟩ := h3 h0
      refine ⟨b, o, ha, fun k hk' f v hv => ?_⟩
      have h4 := hcc k hk' f v hv
      have h5 := World.block_lt_of_cell? w _ h4
      have h6 : w'.cell? ⟨b, o + k * e.sz + f, none⟩ = w.cell? ⟨b, o + k * e.sz + f, none⟩ := World.cell?_of_block (hk b h5 (hd b ⟨h0, _, ha, rfl⟩))
      rw [h6]; exact h4
    | keep l =>
      exact fun p hp => ⟨Nat.le_trans (hok p hp).1 hs, fun hc => (hk p.1 (Array.getElem?_eq_some_iff.1 ((hok p hp).2 hc)).1 (hd p.1 ⟨p.2, hp, hc⟩)).trans ((hok p hp).2 hc)⟩
    | mat q A cap rs ll => exact ⟨hok.1, hok.2.heap fun b ht hlt => hk b hlt (hd b ht)⟩
    | mtw A cap T U rs ll => exact MtwOk.heap hok fun b ht hlt => hk b hlt (hd b ht)
  refine ⟨⟨hos.trans h.bel.os, ht.trans h.bel.tape, hout.trans h.bel.output, Nat.le_trans h.bel.size hs, fun b hb => ?_⟩, fun j d hd => ?_, fun j k d e hjk hd he hwr b h1 h2 => ?_⟩
  · rw [hk b (Nat.lt_of_lt_of_le hb h.bel.size) (fun ht => by have := Ch.touch_ge (h.ok i c hi) hw ht; omega)]
    exact h.bel.block b hb
  · rw [hfs]
    rw [List.getElem?_set] at hd
    split at hd
    · simp at hd; subst hd; exact hc
    · rename_i hne
      exact hbel d (fun b h1 h2 => h.sep i j c d hne hi hd hw b h2 h1) (h.ok j d hd)
  · rw [List.getElem?_set] at hd he
    split at hd
    · rename_i e1; simp at hd; subst e1; subst hd
      rw [if_neg hjk] at he
      rcases htc b h1 with h3 | h3
      · exact h.sep i k c e hjk hi he hw b h3 h2
      · have := Ch.touch_lt (h.ok k e he) h2; omega
    · split at he
      · rename_i e1; simp at he; subst e1; subst he
        rcases htc b h2 with h3 | h3
        · exact h.sep j i d c hjk hd hi hwr b h1 h3
        · have := Ch.touch_lt (h.ok j d hd) h1; omega
      · exact h.sep j k d e hjk hd he hwr b h1 h2

/-- a block as the run knows it: where it lies is left out -/
inductive Ck where
  | blk (T : TypeId) (cs : List Ce)
  | arr (q : Bool) (e : El) (l : List e.T)
  | own (T : TypeId) (e : El) (l : List e.T)
  | ro (T : TypeId) (cs : List Ce)
  | gone
  | ful (e : El) (l : List e.T)
  | keep (l : List (Nat × Obj))
  | mat (q : Bool) (ll : List (List Int))
  | mtw (T U : TypeId) (ll : List (List Int))
def Ch.ck : Ch → Ck
  | .blk _ T cs => .blk T cs
  | .arr q _ _ e l => .arr q e l
  | .own _ _ T e l => .own T e l
  | .ro _ T cs => .ro T cs
  | .gone _ => .gone
  | .ful _ e l => .ful e l
  | .keep l => .keep l
  | .mat q _ _ _ ll => .mat q ll
  | .mtw _ _ T U _ ll => .mtw T U ll
end Go.Proofs.YtmnhfaaaaejpaaaGreat
