/-
  A symbolic run: the operations that only read. No program here.
-/
import Derived.Test.YtmnhfaaaaejpaaaGreatSym
namespace Go.Proofs.YtmnhfaaaaejpaaaGreat
open Go.RowKit

/-- what the run does not look into -/
inductive Key where
  | add | sub | mul | quo | rem | min | max | lt | le | eq | beq | and | not | inr | nz | idx | kin | toNat | ofNat | len | get | app | cut | put | rep | room | rng | shr | wrp
abbrev Key.T : Key → Type
  | .add | .sub | .mul | .quo | .rem | .min | .max | .shr => Int → Int → Int
  | .lt | .le | .eq => Int → Int → Bool
  | .beq | .and => Bool → Bool → Bool
  | .not => Bool → Bool
  | .inr => IntKind → Int → Prop
  | .wrp => IntKind → Int → Int
  | .nz => Int → Prop
  | .idx => Int → Nat → Prop
  | .kin => Nat → Nat → Prop
  | .toNat => Int → Nat
  | .ofNat => Nat → Int
  | .len => (e : El) → List e.T → Nat
  | .get => (e : El) → List e.T → Nat → e.T
  | .app => (e : El) → List e.T → List e.T → List e.T
  | .cut => (e : El) → List e.T → Nat → Nat → List e.T
  | .put => (e : El) → List e.T → Nat → e.T → List e.T
  | .rep => (e : El) → Nat → List e.T
  | .room => Nat → Prop
  | .rng => Int → Nat → Prop
abbrev Ops := (k : Key) → k.T

def std : Ops
  | .add => fun a b => a + b
  | .sub => fun a b => a - b
  | .mul => fun a b => a * b
  | .quo => Int.tdiv
  | .rem => Int.tmod
  | .min => fun a b => if b < a then b else a
  | .max => fun a b => if b > a then b else a
  | .lt => fun a b => decide (a < b)
  | .le => fun a b => decide (a ≤ b)
  | .eq => fun a b => a == b
  | .beq => fun a b => a == b
  | .and => fun a b => a && b
  | .not => fun a => !a
  | .inr => fun k n => k.wrap n = n
  | .wrp => fun k n => k.wrap n
  | .nz => fun n => n ≠ 0
  | .idx => fun i n => 0 ≤ i ∧ i < (n : Int)
  | .kin => fun k n => k < n
  | .toNat => Int.toNat
  | .ofNat => fun n => (n : Int)
  | .len => fun _ l => l.length
  | .get => fun e l k => l.getD k e.zero
  | .app => fun _ l l' => l ++ l'
  | .cut => fun _ l a b => (l.drop a).take (b - a)
  | .put => fun _ l k x => l.set k x
  | .rep => fun e n => List.replicate n e.zero
  | .room => fun n => n ≤ 1099511627776
  | .rng => fun i n => 0 ≤ i ∧ i ≤ (n : Int)
  | .shr => fun a b => a / 2 ^ b.toNat

/-- what the table tells of a type -/
structure TI where
  agg : Bool
  size : Nat
  bytes : Nat
  zero : List Ce
  flds : List (Nat × Nat × Bool)
  elem : Option TypeId
  el : Option El
  kind : Option IntKind
  bool : Bool
  eqs : Bool
  /-- sums at this type wrap round -/
  wrp : Bool
abbrev Tab := List (TypeId × TI)
def getTI : Tab → TypeId → Option TI
  | [], _ => none
  | (t, i) :: r, T => bif Nat.beq t T then some i else getTI r T

def sameV : Ce → Value → Bool
  | .int k n, .int k' n' => decide (k = k') && decide (n = n')
  | .bool b, .bool b' => b == b'
  | .raw (.slice none 0 0), .slice none 0 0 => true
  | .raw .nilFunc, .nilFunc => true
  | .raw (.pointer none), .pointer none => true
  | _, _ => false
def sameVs : List Ce → List Value → Bool
  | [], [] => true
  | c :: cs, v :: vs => sameV c v && sameVs cs vs
  | _, _ => false

def fldsOf (P : Program) (F : Array Field) : List (Nat × Option Nat × Bool) :=
  F.toList.map fun f => (f.offset, (P.info? f.type).map (·.size), match P.underlying f.type with | some (.struct _) => true | some (.array _ _) => true | some _ => false | none => true)
def descB (P : Program) (d : TypeDesc) (ti : TI) : Bool :=
  match d with
  | .struct F => F.all (fun f => (P.underlying f.type).isSome) && (ti.agg && (decide (fldsOf P F = ti.flds.map (fun x => (x.1, some x.2.1, x.2.2))) && ti.flds.all (fun x => !(x.2.1 == 0))))
  | .array _ _ => ti.agg && ti.flds.isEmpty
  | _ => !ti.agg && ti.flds.isEmpty
def elemB (d : TypeDesc) (ti : TI) : Bool := match d with | .slice e => decide (ti.elem = some e) | _ => decide (ti.elem = none)
def kindB (d : TypeDesc) (ti : TI) : Bool := match d with | .int k => decide (ti.kind = some k) | _ => decide (ti.kind = none)
def boolB (d : TypeDesc) (ti : TI) : Bool := match d with | .bool => ti.bool | _ => !ti.bool
def tiB (P : Program) (T : TypeId) (ti : TI) : Bool :=
  match P.underlying T, P.info? T with
  | some d, some i =>
    (match i.zero with | some z => sameVs ti.zero z.cells.toList && z.cells.size == ti.size | none => false) &&
    (i.size == ti.size && (i.bytes == ti.bytes && (descB P d ti && (elemB d ti && (kindB d ti && (boolB d ti &&
    (match ti.el with | some e => ti.size == e.sz && sameVs ti.zero (e.vals e.zero) | none => true)))))))
  | _, _ => false

theorem sameV_val {c : Ce} {v : Value} (h : sameV c v = true) : (∀ fs, c.val fs = some v) ∧ v.oneCell' = true := by
  unfold sameV at h
  split at h <;> simp_all [Ce.val, Value.oneCell']
theorem sameVs_val : ∀ {cs : List Ce} {vs : List Value}, sameVs cs vs = true → (∀ fs, vals fs cs = some vs) ∧ ∀ v ∈ vs, v.oneCell' = true := by
  intro cs
  induction cs with
  | nil => intro vs h; cases vs <;> simp [sameVs] at h; exact ⟨fun _ => rfl, by simp⟩
  | cons c cs ih =>
    intro vs h
    cases vs with
    | nil => simp [sameVs] at h
    | cons v vs =>
      simp only [sameVs, Bool.and_eq_true] at h
      obtain ⟨h1, h2⟩ := sameV_val h.1
      obtain ⟨h3, h4⟩ := ih h.2
      refine ⟨fun fs => ?_, by simpa using ⟨h2, h4⟩⟩
      have h3' := h3 fs
      unfold vals at h3' ⊢
      simp [allv, h1 fs, h3']

structure TiOk (P : Program) (T : TypeId) (ti : TI) : Prop where
  und : ∃ d, P.underlying T = some d ∧ descB P d ti = true ∧ elemB d ti = true ∧ kindB d ti = true ∧ boolB d ti = true
  info : ∃ i z, P.info? T = some i ∧ i.zero = some z ∧ i.size = ti.size ∧ i.bytes = ti.bytes ∧ z.cells.size = ti.size ∧ (∀ fs, vals fs ti.zero = some z.cells.toList) ∧ ∀ v ∈ z.cells.toList, v.oneCell' = true
  el : ∀ e, ti.el = some e → ti.size = e.sz ∧ ∀ fs, vals fs ti.zero = some (e.vals e.zero)

theorem tiB_ok {P : Program} {T : TypeId} {ti : TI} (h : tiB P T ti = true) : TiOk P T ti := by
  unfold tiB at h
  split at h
  · rename_i d i hd hi
    simp only [Bool.and_eq_true, beq_iff_eq] at h
    obtain ⟨h1, h2, h3, h4, h5, h6, h7, h8⟩ := h
    cases hz : i.zero with
    | none => simp [hz] at h1
    | some z =>
      simp only [hz, Bool.and_eq_true, beq_iff_eq] at h1
      obtain ⟨g1, g2⟩ := sameVs_val h1.1
      refine ⟨⟨d, hd, h4, h5, h6, h7⟩, ⟨i, z, hi, hz, h2, h3, h1.2, g1, g2⟩, fun e he => ?_⟩
      simp only [he, Bool.and_eq_true, beq_iff_eq] at h8
      exact ⟨h8.1, (sameVs_val h8.2).1⟩
  · simp at h

def TabOk (P : Program) (tb : Tab) : Prop := ∀ T ti, getTI tb T = some ti → TiOk P T ti
theorem tab_ok {P : Program} : ∀ {tb : Tab}, (tb.all fun x => tiB P x.1 x.2) = true → TabOk P tb := by
  intro tb
  induction tb with
  | nil => intro _ T ti h; simp [getTI] at h
  | cons x tb ih =>
    intro h T ti hg
    obtain ⟨t, i⟩ := x
    simp only [List.all_cons, Bool.and_eq_true] at h
    simp only [getTI] at hg
    cases hb : Nat.beq t T with
    | true =>
      rw [hb] at hg
      have e1 := Nat.eq_of_beq_eq_true hb
      simp at hg
      subst e1; subst hg
      exact tiB_ok h.1
    | false => rw [hb] at hg; exact ih h.2 T ti (by simpa using hg)

section
variable {P : Program} {T : TypeId} {ti : TI}
theorem runTI {i : TypeInfo} (h : P.info? T = some i) (w : World) : (typeInfo T).run P w = .ok i w := by simp [typeInfo, h]
theorem TiOk.agg (h : TiOk P T ti) (w : World) : (isAgg T).run P w = .ok ti.agg w := by
  obtain ⟨d, hd, h1, _⟩ := h.und
  simp only [isAgg, Sem.run_bind, run_underlying hd, Result.andThen_ok]
  cases d <;> simp [descB] at h1 <;> simp [h1]
theorem TiOk.sz (h : TiOk P T ti) (w : World) : (sizeOf T).run P w = .ok ti.size w := by
  obtain ⟨i, z, hi, _, h2, _⟩ := h.info
  have := runTI hi w
  simp [sizeOf, this, h2]
theorem TiOk.slice {e : TypeId} (h : TiOk P T ti) (he : ti.elem = some e) : P.underlying T = some (.slice e) := by
  obtain ⟨d, hd, _, h2, _⟩ := h.und
  rw [hd]
  cases d <;> simp [elemB, he] at h2
  rw [h2]
theorem TiOk.ikind {k : IntKind} (h : TiOk P T ti) (he : ti.kind = some k) : P.underlying T = some (.int k) := by
  obtain ⟨d, hd, _, _, h2, _⟩ := h.und
  rw [hd]
  cases d <;> simp [kindB, he] at h2
  rw [h2]
theorem TiOk.isbool (h : TiOk P T ti) (he : ti.bool = true) : P.underlying T = some .bool := by
  obtain ⟨d, hd, _, _, _, h2⟩ := h.und
  rw [hd]
  cases d <;> simp [boolB, he] at h2
  rfl
/-- a struct's field -/
theorem TiOk.fld (h : TiOk P T ti) {k off sz : Nat} {ag : Bool} (hf : ti.flds[k]? = some (off, sz, ag)) :
    ∃ F f, P.underlying T = some (.struct F) ∧ F[k]? = some f ∧ f.offset = off ∧ 0 < sz ∧ (∀ w, (sizeOf f.type).run P w = .ok sz w) ∧ ∀ w, (isAgg f.type).run P w = .ok ag w := by
  obtain ⟨d, hd, h1, _⟩ := h.und
  have hne : ti.flds.isEmpty = false := by
    cases hl : ti.flds with
    | nil => rw [hl] at hf; simp at hf
    | cons => rfl
  cases d with
  | struct F =>
    simp only [descB, Bool.and_eq_true, decide_eq_true_eq] at h1
    obtain ⟨h0, _, h2, h3⟩ := h1
    have h4 : (fldsOf P F)[k]? = some (off, some sz, ag) := by rw [h2]; simp [hf]
    have hz : ¬ sz = 0 := by simpa using List.all_eq_true.1 h3 _ (List.mem_of_getElem? hf)
    simp only [fldsOf, List.getElem?_map, Array.getElem?_toList] at h4
    cases hk : F[k]? with
    | none => rw [hk] at h4; simp at h4
    | some f =>
      rw [hk] at h4
      simp only [Option.map_some, Option.some.injEq, Prod.mk.injEq] at h4
      obtain ⟨e1, e2, e3⟩ := h4
      refine ⟨F, f, hd, hk, e1, by omega, fun w => ?_, fun w => ?_⟩
      · cases hi : P.info? f.type with
        | none => rw [hi] at e2; simp at e2
        | some i =>
          rw [hi] at e2; simp at e2
          have := runTI hi w
          simp [sizeOf, this, e2]
      · cases hu : P.underlying f.type with
        | none =>
          have hm : f ∈ F := Array.mem_of_getElem? hk
          have := Array.all_eq_true_iff_forall_mem.1 h0 f hm
          rw [hu] at this; simp at this
        | some d' =>
          rw [hu] at e3
          simp only [isAgg, Sem.run_bind, run_underlying hu, Result.andThen_ok]
          cases d' <;> simp at e3 <;> simp [e3]
  | _ => simp [descB, hne] at h1
end

/-! operations that only read -/
def nthA : List AV → Nat → AV
  | [], _ => .junk
  | x :: _, 0 => x
  | _ :: l, n + 1 => nthA l n
def nthC : List Ce → Nat → Option Ce
  | [], _ => none
  | x :: _, 0 => some x
  | _ :: l, n + 1 => nthC l n
def nthCk : List Ck → Nat → Ck
  | [], _ => .gone
  | x :: _, 0 => x
  | _ :: l, n + 1 => nthCk l n
theorem nthC_eq : ∀ (l : List Ce) (n : Nat), nthC l n = l[n]? := by
  intro l; induction l with
  | nil => intro n; rfl
  | cons x l ih => intro n; cases n <;> simp [nthC, ih]
theorem nthCk_eq : ∀ (l : List Ck) (n : Nat), nthCk l n = l.getD n .gone := by
  intro l; induction l with
  | nil => intro n; rfl
  | cons x l ih => intro n; cases n <;> simp [nthCk, ih]
theorem nthCk_some {l : List Ch} {n : Nat} {c : Ck} (h : nthCk (l.map Ch.ck) n = c) (hc : c ≠ .gone) : ∃ d, l[n]? = some d ∧ d.ck = c := by
  rw [nthCk_eq, List.getD_eq_getElem?_getD, List.getElem?_map] at h
  cases hl : l[n]? with
  | none => rw [hl] at h; simp at h; exact absurd h.symm hc
  | some d => rw [hl] at h; simp at h; exact ⟨d, rfl, h⟩
def nthF : List (Nat × Nat × Bool) → Nat → Option (Nat × Nat × Bool)
  | [], _ => none
  | x :: _, 0 => some x
  | _ :: l, n + 1 => nthF l n
theorem nthF_eq : ∀ (l : List (Nat × Nat × Bool)) (n : Nat), nthF l n = l[n]? := by
  intro l; induction l with
  | nil => intro n; rfl
  | cons x l ih => intro n; cases n <;> simp [nthF, ih]
def nthT : List TE → Nat → Option TE
  | [], _ => none
  | x :: _, 0 => some x
  | _ :: l, n + 1 => nthT l n
theorem nthT_eq : ∀ (l : List TE) (n : Nat), nthT l n = l[n]? := by
  intro l; induction l with
  | nil => intro n; rfl
  | cons x l ih => intro n; cases n <;> simp [nthT, ih]
def ofC : Value → Ce
  | .int k n => .int k n
  | .bool b => .bool b
  | v => .raw v
theorem ofC_val (v : Value) (fs : Faces) : (ofC v).val fs = some v := by cases v <;> rfl
def ev (fr : List AV) : Operand → AV
  | .tmp t => nthA fr t
  | .const v => .c (ofC v)
  | .func f => .c (.fn f [])
  | .global _ => .junk
def FrOk (fs : Faces) (fr : List AV) (tmps : Array Value) : Prop := ∀ t : Nat, (nthA fr t).rel fs (tmps.getD t undef)
theorem ev_ok {fs : Faces} {fr : List AV} {a : Act} (h : FrOk fs fr a.tmps) (x : Operand) : (ev fr x).rel fs (a.eval x) := by
  cases x with
  | tmp t => exact h t
  | const v => exact .inr (ofC_val v fs)
  | global g => exact .inl rfl
  | func f => exact .inr rfl
theorem ev_c {fs : Faces} {fr : List AV} {a : Act} (h : FrOk fs fr a.tmps) {x : Operand} {c : Ce} (e : ev fr x = .c c) : c.val fs = some (a.eval x) := by
  have := ev_ok h x
  rw [e] at this
  rcases this with h | h
  · cases h
  · exact h
theorem ev_agg {fs : Faces} {fr : List AV} {a : Act} (h : FrOk fs fr a.tmps) {x : Operand} {l : List Ce} (e : ev fr x = .agg l) : ∃ vs, vals fs l = some vs ∧ a.eval x = .agg vs.toArray := by
  have := ev_ok h x
  rw [e] at this
  rcases this with h | h
  · cases h
  · simp only [AV.val] at h
    cases hl : vals fs l with
    | none => rw [hl] at h; simp at h
    | some vs => rw [hl] at h; simp at h; exact ⟨vs, rfl, h.symm⟩

def All : List Prop → Prop
  | [] => True
  | p :: l => p ∧ All l

def cmp (O : Ops) (op : BinOp) (a b : Int) : Option Bool :=
  match op with
  | .lss => some (O .lt a b)
  | .leq => some (O .le a b)
  | .gtr => some (O .lt b a)
  | .geq => some (O .le b a)
  | .eql => some (O .eq a b)
  | .neq => some (O .not (O .eq a b))
  | _ => none
def eqL (O : Ops) : List Ce → List Ce → Option Bool
  | [], [] => some true
  | [.int k a], [.int k' b] => bif decide (k = k') then some (O .eq a b) else none
  | .int k a :: l, .int k' b :: l' => bif decide (k = k') then match eqL O l l' with
    | some r => some (O .and (O .eq a b) r)
    | none => none
    else none
  | _, _ => none
def isI64 : IntKind → Bool
  | .i64 => true
  | _ => false
def wide (k : IntKind) : Bool := Nat.beq k.bits 64
def wrpB (tb : Tab) (T : TypeId) : Bool :=
  match getTI tb T with
  | some ti => ti.wrp
  | none => false
def bin (O : Ops) (tb : Tab) (op : BinOp) (T : TypeId) : AV → AV → Option (AV × List Prop)
  | .c (.int k a), .c (.int k' b) =>
    bif decide (k = k') then
    match op with
    | .add => bif wrpB tb T then some (.c (.int k (O .wrp k (O .add a b))), []) else some (.c (.int k (O .add a b)), [O .inr k (O .add a b)])
    | .sub => some (.c (.int k (O .sub a b)), [O .inr k (O .sub a b)])
    | .mul => some (.c (.int k (O .mul a b)), [O .inr k (O .mul a b)])
    | .quo => some (.c (.int k (O .quo a b)), [O .nz b, O .inr k (O .quo a b)])
    | .rem => some (.c (.int k (O .rem a b)), [O .nz b])
    | .shr => bif wide k then some (.c (.int k (O .shr a b)), [O .idx b 65]) else none
    | op => match cmp O op a b with
      | some r => some (.c (.bool r), [])
      | none => none
    else none
  | .c (.bool a), .c (.bool b) =>
    match getTI tb T with
    | some ti => bif ti.bool then match op with
      | .eql => some (.c (.bool (O .beq a b)), [])
      | .neq => some (.c (.bool (O .not (O .beq a b))), [])
      | _ => none
      else none
    | none => none
  | .agg l, .agg l' =>
    match getTI tb T with
    | some ti => bif ti.eqs && (Nat.beq l.length ti.size && Nat.beq l'.length ti.size) then match eqL O l l', op with
      | some r, .eql => some (.c (.bool r), [])
      | some r, .neq => some (.c (.bool (O .not r)), [])
      | _, _ => none
      else none
    | none => none
  | _, _ => none
def un (O : Ops) (op : UnOp) : AV → Option (AV × List Prop)
  | .c (.int k a) => match op with
    | .neg => some (.c (.int k (O .sub 0 a)), [O .inr k (O .sub 0 a)])
    | _ => none
  | .c (.bool a) => match op with
    | .not => some (.c (.bool (O .not a)), [])
    | _ => none
  | _ => none
def cnv (O : Ops) (tb : Tab) (S D : TypeId) : AV → Option (AV × List Prop)
  | .c (.int _ a) => match getTI tb D, getTI tb S with
    | some ti, some _ => match ti.kind with
      | some k => some (.c (.int k a), [O .inr k a])
      | none => none
    | _, _ => none
  | _ => none
def elOf (hp : List Ck) (i : Nat) : Option ((e : El) × List e.T) :=
  match nthCk hp i with
  | .arr _ e l => some ⟨e, l⟩
  | .own _ e l => some ⟨e, l⟩
  | .ful e l => some ⟨e, l⟩
  | _ => none
def pickL (ag : Bool) (off sz : Nat) (l : List Ce) : Option AV :=
  match ag with
  | true => bif Nat.ble (off + sz) l.length then some (.agg ((l.drop off).take sz)) else none
  | false => match nthC l off with
    | some c => some (.c c)
    | none => none
def ld (O : Ops) (tb : Tab) (hp : List Ck) (T : TypeId) : AV → Option (AV × List Prop)
  | .c (.ptr i o) => match getTI tb T with
    | some ti => match nthCk hp i with
      | .blk _ cs => match pickL ti.agg o ti.size cs with
        | some v => some (v, [])
        | none => none
      | .ro _ cs => match pickL ti.agg o ti.size cs with
        | some v => some (v, [])
        | none => none
      | _ => none
    | none => none
  | .c (.ept i k f) => match getTI tb T with
    | some ti => match elOf hp i with
      | some ⟨e, l⟩ => match pickL ti.agg f ti.size (e.cells (O .get e l k)) with
        | some v => some (v, [O .kin k (O .len e l)])
        | none => none
      | none => none
    | none => none
  | _ => none
def fad (tb : Tab) (T : TypeId) (f : Nat) : AV → Option (AV × List Prop)
  | .c (.ptr i o) => match getTI tb T with
    | some ti => match nthF ti.flds f with
      | some (off, _, _) => some (.c (.ptr i (o + off)), [])
      | none => none
    | none => none
  | .c (.ept i k o) => match getTI tb T with
    | some ti => match nthF ti.flds f with
      | some (off, _, _) => some (.c (.ept i k (o + off)), [])
      | none => none
    | none => none
  | _ => none
def fld (tb : Tab) (T : TypeId) (f : Nat) : AV → Option (AV × List Prop)
  | .agg l => match getTI tb T with
    | some ti => match nthF ti.flds f with
      | some (off, sz, ag) => match pickL ag off sz l with
        | some v => some (v, [])
        | none => none
      | none => none
    | none => none
  | _ => none
def blkB : Ck → Bool
  | .blk .. => true
  | .ro .. => true
  | _ => false
def iad (O : Ops) (tb : Tab) (hp : List Ck) (T : TypeId) : AV → AV → Option (AV × List Prop)
  | .c (.sl i), .c (.int _ n) => match getTI tb T with
    | some ti => match ti.elem with
      | some E => match getTI tb E, elOf hp i with
        | some te, some ⟨e, l⟩ => bif Nat.beq te.size e.sz then some (.c (.ept i (O .toNat n) 0), [O .idx n (O .len e l)]) else none
        | _, _ => none
      | none => none
    | none => none
  | .c (.asl i m), .c (.int _ (.ofNat n)) => match getTI tb T with
    | some ti => match ti.elem with
      | some E => match getTI tb E, blkB (nthCk hp i) && Nat.blt n m with
        | some te, true => some (.c (.ptr i (n * te.size)), [])
        | _, _ => none
      | none => none
    | none => none
  | _, _ => none
def xtr (f : Nat) : AV → Option (AV × List Prop)
  | .tup l => match nthT l f with
    | some (.one c) => some (.c c, [])
    | some (.many l) => some (.agg l, [])
    | none => none
  | _ => none
def capOf : AV → Option Nat
  | .c (.ptr i 0) => some i
  | _ => none
def caps (fr : List AV) : List Operand → Option (List Nat)
  | [] => some []
  | x :: l => match capOf (ev fr x), caps fr l with
    | some i, some r => some (i :: r)
    | _, _ => none
def len1 (O : Ops) (tb : Tab) (hp : List Ck) (T : TypeId) : AV → Option (AV × List Prop)
  | .c (.sl i) => match getTI tb T with
    | some ti => match ti.elem, elOf hp i with
      | some _, some ⟨e, l⟩ => some (.c (.int .i64 (O .ofNat (O .len e l))), [])
      | _, _ => none
    | none => none
  | .c (.raw (.slice none 0 0)) => match getTI tb T with
    | some ti => match ti.elem with
      | some _ => some (.c (.int .i64 0), [])
      | none => none
    | none => none
  | .c (.asl _ n) => match getTI tb T with
    | some ti => match ti.elem with
      | some _ => some (.c (.int .i64 (.ofNat n)), [])
      | none => none
    | none => none
  | _ => none
def mm (f : Int → Int → Int) : AV → AV → Option (AV × List Prop)
  | .c (.int k a), .c (.int k' b) => bif decide (k = k') then some (.c (.int k (f a b)), []) else none
  | _, _ => none
def one1 : Ce → Bool
  | .raw v => v.oneCell'
  | .rw _ _ => false
  | _ => true
def allOne : List Ce → Bool
  | [] => true
  | c :: l => bif one1 c then allOne l else false
def parts1 : AV → Option (List Ce)
  | .c x => bif one1 x then some [x] else none
  | .agg l => bif allOne l then some l else none
  | _ => none
def setC : List Ce → Nat → Ce → List Ce
  | [], _, _ => []
  | _ :: l, 0, v => v :: l
  | x :: l, n + 1, v => x :: setC l n v
def fillC (off : Nat) : List Ce → List Ce → List Ce
  | [], cs => cs
  | x :: l, cs => fillC (off + 1) l (setC cs off x)
def bld (fr : List AV) (ti : TI) : List (Nat × Operand) → List Ce → Option (List Ce)
  | [], cs => some cs
  | (i, x) :: r, cs => match nthF ti.flds i, parts1 (ev fr x) with
    | some (off, sz, _), some l => bif Nat.beq l.length sz && Nat.ble (off + sz) cs.length then bld fr ti r (fillC off l cs) else none
    | _, _ => none
/-- the rows of a matrix -/
def matOf (hp : List Ck) (i : Nat) : Option (List (List Int)) :=
  match nthCk hp i with
  | .mat _ ll => some ll
  | .mtw _ _ ll => some ll
  | _ => none
def oneTI (tb : Tab) (T : TypeId) : Bool :=
  match getTI tb T with
  | some ti => match ti.elem with
    | some E => match getTI tb E with
      | some te => Nat.beq te.size 1
      | none => false
    | none => false
  | none => false
def notAgg (tb : Tab) (T : TypeId) : Bool :=
  match getTI tb T with
  | some ti => notB ti.agg
  | none => false
where
  notB : Bool → Bool
    | true => false
    | false => true
def iadM (O : Ops) (tb : Tab) (hp : List Ck) (T : TypeId) : AV → AV → Option (AV × List Prop)
  | .c (.sl i), .c (.int _ n) => match matOf hp i, oneTI tb T with
    | some ll, true => some (.c (.mpt i (O .toNat n)), [O .idx n (O .len .v1 ll)])
    | _, _ => none
  | .c (.rw i k), .c (.int _ n) => match matOf hp i, oneTI tb T with
    | some ll, true => some (.c (.rpt i k (O .toNat n)), [O .idx n (O .len .i1 (O .get .v1 ll k))])
    | _, _ => none
  | _, _ => none
def ldM (O : Ops) (tb : Tab) (hp : List Ck) (T : TypeId) : AV → Option (AV × List Prop)
  | .c (.mpt i k) => match matOf hp i, notAgg tb T with
    | some ll, true => some (.c (.rw i k), [O .kin k (O .len .v1 ll)])
    | _, _ => none
  | .c (.rpt i k j) => match matOf hp i, notAgg tb T with
    | some ll, true => some (.c (.int .i64 (O .get .i1 (O .get .v1 ll k) j)), [O .kin j (O .len .i1 (O .get .v1 ll k))])
    | _, _ => none
  | _ => none
def lenM (O : Ops) (tb : Tab) (hp : List Ck) (T : TypeId) : AV → Option (AV × List Prop)
  | .c (.sl i) => match matOf hp i, oneTI tb T with
    | some ll, true => some (.c (.int .i64 (O .ofNat (O .len .v1 ll))), [])
    | _, _ => none
  | .c (.rw i k) => match matOf hp i, oneTI tb T with
    | some ll, true => some (.c (.int .i64 (O .ofNat (O .len .i1 (O .get .v1 ll k)))), [])
    | _, _ => none
  | _ => none
def orE : Option (AV × List Prop) → Option (AV × List Prop) → Option (AV × List Prop)
  | some r, _ => some r
  | none, r => r
/-- the greatest of several numbers -/
def mxL (O : Ops) (fr : List AV) : List Operand → AV → Option AV
  | [], v => some v
  | x :: r, v => match v, ev fr x with
    | .c (.int k a), .c (.int k' b) => bif decide (k = k') then mxL O fr r (.c (.int k (O .max a b))) else none
    | _, _ => none
def isIntA : AV → Bool
  | .c (.int _ _) => true
  | _ => false
def pcall (O : Ops) (tb : Tab) (fr : List AV) (hp : List Ck) (b : Builtin) (xs : List Operand) (ts : List TypeId) : Option (AV × List Prop) :=
  match b with
  | .len => match xs, ts with
    | [x], [T] => orE (len1 O tb hp T (ev fr x)) (lenM O tb hp T (ev fr x))
    | _, _ => none
  | .min => match xs with
    | [x, y] => mm (O .min) (ev fr x) (ev fr y)
    | _ => none
  | .max => match xs with
    | [x, y] => mm (O .max) (ev fr x) (ev fr y)
    | x :: r => bif isIntA (ev fr x) then (match mxL O fr r (ev fr x) with
      | some v => some (v, [])
      | none => none) else none
    | _ => none
  | _ => none
def nck : AV → Option (AV × List Prop)
  | .c (.ptr i o) => some (.c (.ptr i o), [])
  | .c (.ept i k o) => some (.c (.ept i k o), [])
  | .c (.fn f l) => some (.c (.fn f l), [])
  | _ => none
def mv : AV → Option (AV × List Prop)
  | .junk => none
  | v => some (v, [])
def ldIdx : AV → Option Nat
  | .c (.ptr i _) => some i
  | .c (.ept i _ _) => some i
  | .c (.mpt i _) => some i
  | .c (.rpt i _ _) => some i
  | _ => none
def pop (O : Ops) (tb : Tab) (fr : List AV) (hp : List Ck) : Op → Option (AV × List Prop)
  | .move x => mv (ev fr x)
  | .assign x => mv (ev fr x)
  | .binOp op T x y _ => bin O tb op T (ev fr x) (ev fr y)
  | .unOp op _ x => un O op (ev fr x)
  | .convert S D x => cnv O tb S D (ev fr x)
  | .load T x => orE (ld O tb hp T (ev fr x)) (ldM O tb hp T (ev fr x))
  | .fieldAddr T x f => fad tb T f (ev fr x)
  | .field T x f => fld tb T f (ev fr x)
  | .indexAddr T x i => orE (iad O tb hp T (ev fr x) (ev fr i)) (iadM O tb hp T (ev fr x) (ev fr i))
  | .extract x i => xtr i (ev fr x)
  | .makeFunc (.func f) first cs => match first.toList, caps fr cs.toList with
    | [], some l => some (.c (.fn f l), [])
    | _, _ => none
  | .build T ps => match getTI tb T with
    | some ti => bif ti.agg && !ti.flds.isEmpty then match bld fr ti ps.toList ti.zero with
      | some l => some (.agg l, [])
      | none => none
      else none
    | none => none
  | .call ⟨.builtin b, xs, ts⟩ => pcall O tb fr hp b xs.toList ts.toList
  | .nilCheck x => nck (ev fr x)
  | _ => none
end Go.Proofs.YtmnhfaaaaejpaaaGreat
