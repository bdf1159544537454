/-
  A symbolic run: the operations that make or change memory, statements. No program here.
-/
import Derived.Test.YtmnhfaaaaejpaaaGreatSymOps
import Derived.Test.YtmnhfaaaaejpaaaGreatPd
namespace Go.Proofs.YtmnhfaaaaejpaaaGreat
open Go.RowKit

structure St where
  fr : List AV
  hp : List Ck

def setA : List AV → Nat → AV → List AV
  | [], _, _ => []
  | _ :: l, 0, v => v :: l
  | x :: l, n + 1, v => x :: setA l n v
def setK : List Ck → Nat → Ck → List Ck
  | [], _, _ => []
  | _ :: l, 0, v => v :: l
  | x :: l, n + 1, v => x :: setK l n v
def St.put (s : St) : Option Nat → AV → St
  | some d, v => { s with fr := setA s.fr d v }
  | none, _ => s

abbrev Eff := AV × List Ck × List Prop
def undefA : AV := .c (.raw undef)

def sto (O : Ops) (tb : Tab) (hp : List Ck) (T : TypeId) (p : AV) (l : List Ce) : Option Eff :=
  match getTI tb T with
  | some ti => bif Nat.beq l.length ti.size then
    match p with
    | .c (.ptr i o) => match nthCk hp i with
      | .blk T' cs => bif Nat.ble (o + ti.size) cs.length then some (undefA, setK hp i (.blk T' (fillC o l cs)), []) else none
      | _ => none
    | .c (.ept i k f) => match nthCk hp i with
      | .own T' e xs => bif Nat.ble (f + ti.size) e.sz then match e.back (fillC f l (e.cells (O .get e xs k))) with
        | some x => some (undefA, setK hp i (.own T' e (O .put e xs k x)), [O .kin k (O .len e xs)])
        | none => none
        else none
      | _ => none
    | _ => none
    else none
  | none => none
/-- a store into a row of a matrix of the call's own -/
def stoM (O : Ops) (tb : Tab) (hp : List Ck) (T : TypeId) (p : AV) (l : List Ce) : Option Eff :=
  match p, l with
  | .c (.rpt i k j), [.int .i64 x] => match nthCk hp i, szOne tb T with
    | .mtw T' U ll, true => some (undefA, setK hp i (.mtw T' U (O .put .v1 ll k (O .put .i1 (O .get .v1 ll k) j x))), [O .kin j (O .len .i1 (O .get .v1 ll k))])
    | _, _ => none
  | _, _ => none
where
  szOne (tb : Tab) (T : TypeId) : Bool := match getTI tb T with
    | some ti => Nat.beq ti.size 1
    | none => false
def orF : Option Eff → Option Eff → Option Eff
  | some r, _ => some r
  | none, r => r
def stoA (O : Ops) (tb : Tab) (hp : List Ck) (T : TypeId) (p : AV) (l : List Ce) : Option Eff := orF (sto O tb hp T p l) (stoM O tb hp T p l)
/-- a matrix's elements: slices of integers -/
def rowTI (tb : Tab) (te : TI) : Option TypeId :=
  match te.elem with
  | some U => match getTI tb U with
    | some tu => match tu.el with
      | some .i1 => some U
      | _ => none
    | none => none
  | none => none
def bsl (fr : List AV) (e : El) : Nat → List (Nat × Operand) → Option (List e.T)
  | _, [] => some []
  | n, (i, x) :: r => bif Nat.beq i n then match parts1 (ev fr x), bsl fr e (n + 1) r with
    | some l, some xs => match e.back l with
      | some y => some (y :: xs)
      | none => none
    | _, _ => none
    else none
def appC : List Ce → List Ce → List Ce
  | [], l => l
  | x :: r, l => x :: appC r l
/-- the cells of a literal slice -/
def bsf (fr : List AV) (sz : Nat) : Nat → List (Nat × Operand) → Option (List Ce)
  | _, [] => some []
  | n, (i, x) :: r => bif Nat.beq i n then match parts1 (ev fr x), bsf fr sz (n + 1) r with
    | some l, some cs => bif Nat.beq l.length sz then some (appC l cs) else none
    | _, _ => none
    else none
def elemTI (tb : Tab) (T : TypeId) : Option (TypeId × TI) :=
  match getTI tb T with
  | some ti => match ti.elem with
    | some E => match getTI tb E with
      | some te => some (E, te)
      | none => none
    | none => none
  | none => none
def appendS (O : Ops) (tb : Tab) (hp : List Ck) (T : TypeId) : AV → AV → Option Eff
  | .c (.sl i), .c (.sl j) => match elemTI tb T with
    | some (E, te) => match te.el, nthCk hp i, elOf hp j with
      | some e', .own T' e l, some ⟨e2, l2⟩ => bif Nat.beq i j || !Nat.ble te.bytes 64 then none else
        match e, l, e2, l2 with
        | .i1, l, .i1, l2 => app1 O hp i T' .i1 l l2 e' E
        | .i2, l, .i2, l2 => app1 O hp i T' .i2 l l2 e' E
        | .i3, l, .i3, l2 => app1 O hp i T' .i3 l l2 e' E
        | .i4, l, .i4, l2 => app1 O hp i T' .i4 l l2 e' E
        | .b1, l, .b1, l2 => app1 O hp i T' .b1 l l2 e' E
        | _, _, _, _ => none
      | some e', .ful e l, some ⟨e2, l2⟩ => bif !Nat.ble te.bytes 64 then none else
        match e, l, e2, l2 with
        | .i1, l, .i1, l2 => app2 O hp .i1 l l2 e' E
        | .i2, l, .i2, l2 => app2 O hp .i2 l l2 e' E
        | .i3, l, .i3, l2 => app2 O hp .i3 l l2 e' E
        | .i4, l, .i4, l2 => app2 O hp .i4 l l2 e' E
        | .b1, l, .b1, l2 => app2 O hp .b1 l l2 e' E
        | _, _, _, _ => none
      | _, _, _ => none
    | none => none
  | _, _ => none
where
  app2 (O : Ops) (hp : List Ck) (e : El) (l l2 : List e.T) (e' : El) (E : TypeId) : Option Eff :=
    bif Nat.beq e.sz e'.sz then some (.c (.sl hp.length), hp ++ [.own E e (O .app e l l2)], [O .room (O .len e l), O .room (O .len e l2), O .kin 0 (O .len e l2)]) else none
  app1 (O : Ops) (hp : List Ck) (i : Nat) (T' : TypeId) (e : El) (l l2 : List e.T) (e' : El) (E : TypeId) : Option Eff :=
    bif Nat.beq T' E && Nat.beq e.sz e'.sz then some (.c (.sl hp.length), setK hp i .gone ++ [.own T' e (O .app e l l2)], [O .room (O .len e l), O .room (O .len e l2)]) else none
/-- a part of a slice that is only read -/
def slc (O : Ops) (tb : Tab) (hp : List Ck) (T : TypeId) (x : AV) (lo hi : Option AV) : Option Eff :=
  match x with
  | .c (.sl i) => match nthCk hp i, elemTI tb T with
    | .arr q e l, some (_, te) => bif Nat.beq te.size e.sz then
      match lo, hi with
      | none, none => some (.c (.sl hp.length), hp ++ [.arr q e (O .cut e l 0 (O .len e l))], [])
      | some (.c (.int _ a)), none => some (.c (.sl hp.length), hp ++ [.arr q e (O .cut e l (O .toNat a) (O .len e l))], [O .rng a (O .len e l)])
      | none, some (.c (.int _ b)) => some (.c (.sl hp.length), hp ++ [.arr q e (O .cut e l 0 (O .toNat b))], [O .rng b (O .len e l)])
      | some (.c (.int _ a)), some (.c (.int _ b)) => some (.c (.sl hp.length), hp ++ [.arr q e (O .cut e l (O .toNat a) (O .toNat b))], [O .rng b (O .len e l), O .rng a (O .toNat b)])
      | _, _ => none
      else none
    | _, _ => none
  | _ => none
def evO (fr : List AV) : Option Operand → Option AV
  | none => none
  | some x => some (ev fr x)
/-- own slices of which a part is taken are only read from there on -/
def ownK : Ck → Ck
  | .own _ e l => .arr true e l
  | .mtw _ _ ll => .mat true ll
  | c => c
def frzAt (hp : List Ck) : AV → List Ck
  | .c (.sl i) => setK hp i (ownK (nthCk hp i))
  | _ => hp
def movOf : List Oper → Nat → Nat
  | [], t => t
  | o :: r, t => match o.op, o.dst with
    | .move (.tmp u), some d => bif Nat.beq d t then u else movOf r t
    | _, _ => movOf r t
def fndO : List Oper → Nat → Option Op
  | [], _ => none
  | o :: r, t => match o.dst with
    | some d => bif Nat.beq d t then some o.op else fndO r t
    | none => fndO r t
/-- what a slot will hold, as far as moves, fields and loads tell -/
def resT (tb : Tab) (fr : List AV) (hp : List Ck) (all : List Oper) : Nat → Nat → AV
  | 0, t => nthA fr t
  | n + 1, t => match fndO all t with
    | some (.move (.tmp u)) => resT tb fr hp all n u
    | some (.load _ (.tmp u)) => match resT tb fr hp all n u with
      | .c (.ptr i o) => match nthCk hp i with
        | .blk _ cs => match nthC cs o with
          | some c => .c c
          | none => .junk
        | _ => .junk
      | _ => .junk
    | some (.fieldAddr T (.tmp u) f) => match fad tb T f (resT tb fr hp all n u) with
      | some (v, _) => v
      | none => .junk
    | _ => nthA fr t
def frzL (tb : Tab) (fr : List AV) (all : List Oper) : List Oper → List Ck → List Ck
  | [], hp => hp
  | o :: r, hp => match o.op with
    | .slice _ (.tmp t) _ _ _ => frzL tb fr all r (frzAt hp (resT tb fr hp all 8 t))
    | _ => frzL tb fr all r hp
def isNil : Value → Bool
  | .slice none 0 0 => true
  | _ => false
/-- append where one side is nil -/
def appendN (O : Ops) (tb : Tab) (hp : List Ck) (T : TypeId) (x y : AV) : Option Eff :=
  match x with
  | .c (.raw v) => match isNil v, elemTI tb T with
    | true, some (E, te) => match te.el with
      | some e => appendS O tb (hp ++ [.own E e []]) T (.c (.sl hp.length)) y
      | none => none
    | _, _ => none
  | x => match y with
    | .c (.raw v) => match isNil v, elemTI tb T with
      | true, some (_, te) => match te.el with
        | some e => appendS O tb (hp ++ [.arr true e []]) T x (.c (.sl hp.length))
        | none => none
      | _, _ => none
    | y => appendS O tb hp T x y
def isNilL : List Ce → Bool
  | [.raw v] => isNil v
  | _ => false
/-- append of one row onto a matrix of the call's own -/
def appM (O : Ops) (tb : Tab) (hp : List Ck) (T : TypeId) : AV → AV → Option Eff
  | .c (.sl i), .c (.asl b 1) => match elemTI tb T, nthCk hp i, nthCk hp b with
    | some (E, te), .mtw T' U ll, .blk _ [.sl j] => match nthCk hp j with
      | .own U' .i1 l => bif Nat.beq U U' && (Nat.beq T' E && (Nat.ble te.bytes 64 && (Nat.beq te.size 1 && notB (Nat.beq i j)))) then some (.c (.sl hp.length), setK (setK hp j .gone) i .gone ++ [.mtw T' U (O .app .v1 ll [l])], [O .room (O .len .v1 ll)]) else none
      | _ => none
    | _, _, _ => none
  | _, _ => none
where
  notB : Bool → Bool
    | true => false
    | false => true
def mks (O : Ops) (tb : Tab) (hp : List Ck) (T : TypeId) (n c : AV) : Option Eff :=
  match n, c with
  | .c (.int _ n), .c (.int _ c) => match elemTI tb T with
    | some (E, te) => match te.el with
      | some e => bif Nat.ble te.bytes 64 then some (.c (.sl hp.length), hp ++ [.own E e (O .rep e (O .toNat n))], [O .rng c (O .toNat c), O .rng n (O .toNat c), O .room (O .toNat c)]) else none
      | none => match rowTI tb te with
        | some U => bif Nat.ble te.bytes 64 && isNilL te.zero then some (.c (.sl hp.length), hp ++ [.mtw E U (O .rep .v1 (O .toNat n))], [O .rng c (O .toNat c), O .rng n (O .toNat c), O .room (O .toNat c)]) else none
        | none => none
    | none => none
  | _, _ => none
def slc3 (O : Ops) (tb : Tab) (hp : List Ck) (T : TypeId) (x : AV) (lo : Option AV) (hi mx : AV) : Option Eff :=
  match x with
  | .c (.sl i) => match nthCk hp i, elemTI tb T with
    | .arr q e l, some (_, te) => bif Nat.beq te.size e.sz then
      match q, lo, hi, mx with
      | true, none, .c (.int _ b), .c (.int _ m) => some (.c (.sl hp.length), hp ++ [.ful e (O .cut e l 0 (O .toNat b))], [O .rng m (O .len e l), O .rng b (O .toNat m), O .rng m (O .toNat b)])
      | true, some (.c (.int _ a)), .c (.int _ b), .c (.int _ m) => some (.c (.sl hp.length), hp ++ [.ful e (O .cut e l (O .toNat a) (O .toNat b))], [O .rng m (O .len e l), O .rng b (O .toNat m), O .rng a (O .toNat b), O .rng m (O .toNat b)])
      | q, none, .c (.int _ b), .c (.int _ m) => some (.c (.sl hp.length), hp ++ [.arr q e (O .cut e l 0 (O .toNat b))], [O .rng m (O .len e l), O .rng b (O .toNat m)])
      | q, some (.c (.int _ a)), .c (.int _ b), .c (.int _ m) => some (.c (.sl hp.length), hp ++ [.arr q e (O .cut e l (O .toNat a) (O .toNat b))], [O .rng m (O .len e l), O .rng b (O .toNat m), O .rng a (O .toNat b)])
      | _, _, _, _ => none
      else none
    | _, _ => none
  | _ => none
/-- nil that becomes a slice of the call's own (a table may say of a type that its nil stays nil: the flag wrp at a slice's type) -/
def natN (tb : Tab) (ty : TypeId) (v : Value) : Bool := match wrpB tb ty with
  | true => false
  | false => isNil v
def eop (O : Ops) (tb : Tab) (fr : List AV) (hp : List Ck) (ty : TypeId) : Op → Option Eff
  | .alloc T => match getTI tb T with
    | some ti => some (.c (.ptr hp.length 0), hp ++ [.blk T ti.zero], [])
    | none => none
  | .box T x => match parts1 (ev fr x) with
    | some l => some (.c (.ptr hp.length 0), hp ++ [.blk T l], [])
    | none => none
  | .store T p x => match parts1 (ev fr x) with
    | some l => stoA O tb hp T (ev fr p) l
    | none => none
  | .buildSlice T n ps => match elemTI tb T with
    | some (E, te) => match te.el with
      | some e => match bsl fr e 0 ps.toList with
        | some xs => bif Nat.beq xs.length n && Nat.ble n 1000 then some (.c (.sl hp.length), hp ++ [.own E e xs], []) else none
        | none => none
      | none => match bsf fr te.size 0 ps.toList with
        | some cs => bif Nat.beq ps.toList.length n && (Nat.blt 0 n && (Nat.ble n 1000 && (Nat.blt 0 te.size && Nat.ble te.size 1000))) then some (.c (.asl hp.length n), hp ++ [.blk E cs], []) else none
        | none => none
    | none => none
  | .assign (.const v) => match natN tb ty v, elemTI tb ty with
    | true, some (E, te) => match te.el with
      | some e => some (.c (.sl hp.length), hp ++ [.own E e []], [])
      | none => match rowTI tb te with
        | some U => some (.c (.sl hp.length), hp ++ [.mtw E U []], [])
        | none => none
    | _, _ => none
  | .call ⟨.builtin .append, xs, ts⟩ => match xs.toList, ts.toList with
    | [s, x], [T, T2] => bif Nat.beq T T2 then orF (appendN O tb hp T (ev fr s) (ev fr x)) (appM O tb hp T (ev fr s) (ev fr x)) else none
    | _, _ => none
  | .slice T x lo hi none => slc O tb hp T (ev fr x) (evO fr lo) (evO fr hi)
  | .slice T x lo (some hi) (some m) => slc3 O tb hp T (ev fr x) (evO fr lo) (ev fr hi) (ev fr m)
  | .makeSlice T n c => mks O tb hp T (ev fr n) (ev fr c)
  | _ => none

/-- a test that the run may not see through -/
def cnd (b : Bool) (p q : Unit → Prop) : Prop := match b with
  | true => p ()
  | false => q ()

/-- calls, loops, the end, ranges over functions -/
inductive Ky where
  | call | loop | fin | rf
abbrev Ky.T : Ky → Type
  | .call => Bool → Nat → List AV → St → (AV → St → Prop) → Prop
  | .loop => Code → St → (Exit → St → Prop) → Prop
  | .fin => List TE → List Ck → Prop
  | .rf => Operand → Array Tmp → Code → Code → St → (Exit → St → Prop) → Prop
abbrev Cx := (k : Ky) → k.T

def ptrs : List Nat → List AV
  | [] => []
  | i :: l => .c (.ptr i 0) :: ptrs l
def callee (fr : List AV) : Callee → Option (Nat × List AV)
  | .value x => match ev fr x with
    | .c (.fn f l) => some (f, ptrs l)
    | _ => none
  | _ => none
def evs (fr : List AV) : List Operand → List AV
  | [] => []
  | x :: l => ev fr x :: evs fr l
def appA : List AV → List AV → List AV
  | [], l => l
  | x :: r, l => x :: appA r l
def dstAt : List Oper → Nat → Option Nat
  | [], _ => none
  | o :: _, 0 => o.dst
  | _ :: l, n + 1 => dstAt l n
def andL : List Prop → Prop → Prop
  | [], K => K
  | p :: l, K => p ∧ andL l K
def appP : List Prop → List Prop → List Prop
  | [], l => l
  | x :: r, l => x :: appP r l
def noJunk : List AV → Bool
  | [] => true
  | .junk :: _ => false
  | _ :: l => noJunk l

def limOk (lim : Option Nat) (fr : List AV) : Op → Bool
  | .load _ x => match lim with
    | none => true
    | some n => match ldIdx (ev fr x) with
      | some i => Nat.blt i n
      | none => true
  | _ => true
def stepR (O : Ops) (tb : Tab) (lim : Option Nat) (s : St) (o : Oper) : Option Eff :=
  match eop O tb s.fr s.hp o.type o.op with
  | some r => some r
  | none => bif limOk lim s.fr o.op then match pop O tb s.fr s.hp o.op with
    | some (v, ob) => some (v, s.hp, ob)
    | none => none
    else none
def isSome' : Option Nat → Bool
  | some _ => true
  | none => false
/-- a slice beside nil: nothing is known but that what is nil has no elements -/
def nilc (O : Ops) (tb : Tab) (hp : List Ck) (op : BinOp) (T : TypeId) (x y : AV) : Option (Bool × Prop) :=
  match x, y with
  | .c (.sl i), .c (.raw v) => match isNil v, elOf hp i, elemTI tb T with
    | true, some ⟨e, l⟩, some _ => match op with
      | .eql => some (true, O .eq (O .ofNat (O .len e l)) 0 = true)
      | .neq => some (false, O .eq (O .ofNat (O .len e l)) 0 = true)
      | _ => none
    | _, _, _ => none
  | _, _ => none
/-- nil beside nil -/
def nil2 (tb : Tab) (op : BinOp) (T : TypeId) (x y : AV) : Option Bool :=
  match x, y with
  | .c (.raw v), .c (.raw v') => match isNil v, isNil v', elemTI tb T with
    | true, true, some _ => match op with
      | .eql => some true
      | .neq => some false
      | _ => none
    | _, _, _ => none
  | _, _ => none
def notB : Bool → Bool
  | true => false
  | false => true
/-- names of a matrix, in another place -/
def mvC (i n : Nat) : Ce → Ce
  | .sl j => bif Nat.beq j i then .sl n else .sl j
  | .mpt j k => bif Nat.beq j i then .mpt n k else .mpt j k
  | .ptr j k => bif Nat.beq j i then .ptr n k else .ptr j k
  | c => c
def mvL (i n : Nat) : List Ce → List Ce
  | [] => []
  | c :: l => mvC i n c :: mvL i n l
def mvT (i n : Nat) : List TE → List TE
  | [] => []
  | .one c :: l => .one (mvC i n c) :: mvT i n l
  | .many cs :: l => .many (mvL i n cs) :: mvT i n l
def mvA (i n : Nat) : AV → AV
  | .c x => .c (mvC i n x)
  | .agg l => .agg (mvL i n l)
  | .tup l => .tup (mvT i n l)
  | .junk => .junk
def mvF (i n : Nat) : List AV → List AV
  | [] => []
  | a :: l => mvA i n a :: mvF i n l
def mvK (i n : Nat) : List Ck → List Ck
  | [] => []
  | .blk T cs :: l => .blk T (mvL i n cs) :: mvK i n l
  | .ro T cs :: l => .ro T (mvL i n cs) :: mvK i n l
  | c :: l => c :: mvK i n l
/-- a row is laid into a matrix -/
def rst (O : Ops) (tb : Tab) (s : St) (T : TypeId) : AV → AV → Option (St × List Prop)
  | .c (.mpt i k), .c (.sl j) => match nthCk s.hp i, nthCk s.hp j with
    | .mtw T' U ll, .own U' .i1 l => bif Nat.beq U U' && stoM.szOne tb T then some (⟨mvF i s.hp.length s.fr, mvK i s.hp.length (setK (setK s.hp j .gone) i .gone) ++ [.mtw T' U (O .put .v1 ll k l)]⟩, [O .kin k (O .len .v1 ll)]) else none
    | _, _ => none
  | _, _ => none
/-- rows as arguments: slices of their own -/
def alV (hp : List Ck) : Nat → List AV → List AV
  | _, [] => []
  | n, .c (.rw i k) :: r => match nthCk hp i with
    | .mat _ _ => .c (.sl n) :: alV hp (n + 1) r
    | _ => .c (.rw i k) :: alV hp n r
  | n, v :: r => v :: alV hp n r
def alH (O : Ops) (hp : List Ck) : List AV → List Ck
  | [] => []
  | .c (.rw i k) :: r => match nthCk hp i with
    | .mat _ ll => .arr false .i1 (O .get .v1 ll k) :: alH O hp r
    | _ => alH O hp r
  | _ :: r => alH O hp r
def appK : List Ck → List Ck → List Ck
  | l, [] => l
  | l, r => l ++ r
def doOp (O : Ops) (X : Cx) (tb : Tab) (lim : Option Nat) (o : Oper) (s : St) (obs : List Prop) (K : St → List Prop → Prop) : Prop :=
  match o.op with
  | .pick c a b => match ev s.fr c with
    | .c (.bool t) => cnd t (fun _ => K (s.put o.dst (ev s.fr a)) obs) (fun _ => K (s.put o.dst (ev s.fr b)) obs)
    | _ => False
  | op => match stepR O tb lim s o with
    | some (v, hp, ob) => K (St.put ⟨s.fr, hp⟩ o.dst v) (appP obs ob)
    | none => match op with
      | .call c => match callee s.fr c.callee with
        | some (f, cap) => bif noJunk (evs s.fr c.args.toList) then andL obs (X .call (isSome' lim) f (appA (alV s.hp s.hp.length (evs s.fr c.args.toList)) cap) ⟨s.fr, appK s.hp (alH O s.hp (evs s.fr c.args.toList))⟩ (fun v s' => K (s'.put o.dst v) [])) else False
        | none => False
      | .binOp bop T x y _ => match lim with
        | none => match nilc O tb s.hp bop T (ev s.fr x) (ev s.fr y) with
          | some (t, p) => (p → K (s.put o.dst (.c (.bool t))) obs) ∧ K (s.put o.dst (.c (.bool (notB t)))) obs
          | none => match nil2 tb bop T (ev s.fr x) (ev s.fr y) with
            | some t => K (s.put o.dst (.c (.bool t))) obs
            | none => False
        | some _ => False
      | .store T p x => match lim with
        | none => match rst O tb s T (ev s.fr p) (ev s.fr x) with
          | some (s', ob) => K (s'.put o.dst undefA) (appP obs ob)
          | none => False
        | some _ => False
      | _ => False
def alist (O : Ops) (X : Cx) (tb : Tab) (lim : Option Nat) (all : List Oper) : List Oper → St → List Prop → (St → List Prop → Prop) → Prop
  | [], s, obs, K => K s obs
  | o :: r, s, obs, K =>
    match o.guard with
    | none => doOp O X tb lim o s obs (fun s' obs' => alist O X tb lim all r s' obs' K)
    | some (j, want) => match dstAt all j with
      | none => False
      | some d => match nthA s.fr d with
        | .c (.bool t) => match want with
          | true => cnd t (fun _ => doOp O X tb lim o ⟨setA s.fr d (.c (.bool true)), s.hp⟩ obs (fun s' obs' => alist O X tb lim all r s' obs' K))
              (fun _ => alist O X tb lim all r (St.put ⟨setA s.fr d (.c (.bool false)), s.hp⟩ o.dst undefA) obs K)
          | false => cnd t (fun _ => alist O X tb lim all r (St.put ⟨setA s.fr d (.c (.bool true)), s.hp⟩ o.dst undefA) obs K)
              (fun _ => doOp O X tb lim o ⟨setA s.fr d (.c (.bool false)), s.hp⟩ obs (fun s' obs' => alist O X tb lim all r s' obs' K))
        | .c (.raw (.tuple _)) => alist O X tb lim all r (St.put s o.dst undefA) obs K
        | _ => False
/-- the orders of the regions that draw: a tree, and the late ones -/
abbrev Pis := List (Nat × Dr × List Nat)
def getPi : Pis → Nat → Option (Dr × List Nat)
  | [], _ => none
  | (i, p) :: r, n => bif Nat.beq i n then some p else getPi r n
/-- a store into a block that was made in the region, or an append onto a slice that was made in it -/
def stN (n : Nat) (fr : List AV) (hp : List Ck) (o : Oper) (p : Prop) : Prop :=
  match o.op, o.guard with
  | .store _ x _, none => match ldIdx (ev fr x) with
    | some i => bif Nat.ble n i then p else False
    | none => False
  | .call ⟨.builtin .append, xs, _⟩, none => match xs.toList with
    | [x, _] => match ev fr x with
      | .c (.sl i) => match nthCk hp i with
        | .own _ _ _ => bif Nat.ble n i then p else False
        | _ => False
      | _ => False
    | _ => False
  | _, _ => False
def altR : Dr → Prop → Prop
  | .no, _ => True
  | _, p => p
def alistD (O : Ops) (X : Cx) (tb : Tab) (lim : Option Nat) (all : List Oper) (lt : List Nat) : Dr → St → List Prop → (St → List Prop → Prop) → Prop
  | .fin, s, obs, K => alist O X tb none all (pick all lt) s obs K
  | .seg k is r, s, obs, K => match Nat.beq k 3 with
    | true => match lim, is with
      | some n, [i] => stN n s.fr s.hp (all.getD i default) (alist O X tb lim all (pick all [i]) s obs (fun s' obs' => alistD O X tb lim all lt r s' obs' K))
      | _, _ => False
    | false => alist O X tb lim all (pick all is) s obs (fun s' obs' => alistD O X tb lim all lt r s' obs' K)
  | .alt i x y, s, obs, K => alist O X tb lim all (pick all [i]) s obs (fun s' obs' => alistD O X tb lim all lt x s' obs' K) ∧ altR y (alistD O X tb lim all lt y s obs K)
  | .no, _, _, _ => False
  | .one i r, s, obs, K => alist O X tb none all (pick all [i]) s obs (fun s' obs' => alistD O X tb lim all lt r s' obs' K)
  | .tl is r, s, obs, K => alist O X tb lim all (pick all is) s obs (fun s' obs' => alistD O X tb lim all lt r s' obs' K)
  | .done, s, obs, K => K s obs
/-- a tree of reads, and one store behind them into a block that lay ahead -/
def isX : Dr → Bool
  | .seg k _ r => match Nat.beq k 4 with
    | true => true
    | false => isX r
  | _ => false
/-- the block into which that store goes -/
def exP (tb : Tab) (fr : List AV) (hp : List Ck) (all : List Oper) : Operand → Option Nat
  | .tmp x => match fndO all x with
    | some (.indexAddr _ (.tmp u) _) => match resT tb fr hp all 8 u with
      | .c (.sl i) => some i
      | _ => none
    | _ => ldIdx (nthA fr x)
  | x => ldIdx (ev fr x)
def exK (tb : Tab) (hp : List Ck) (all : List Oper) (fr : List AV) : Dr → Option (List Nat)
  | .seg k is r => match Nat.beq k 4 with
    | true => match is with
      | [i] => match (all.getD i default).op with
        | .store _ x _ => match exP tb fr hp all x, exK tb hp all fr r with
          | some e, some l => some (e :: l)
          | _, _ => none
        | _ => none
      | _ => none
    | false => exK tb hp all fr r
  | .fin => some []
  | _ => none
/-- blocks that are hidden while others are read: what they hold -/
def cntK (hp : List Ck) : List Nat → Option (List (Nat × Ck))
  | [] => some []
  | i :: r => match cntK hp r, nthCk hp i with
    | some l, .blk T cs => some ((i, .blk T cs) :: l)
    | some l, .own T e xs => some ((i, .own T e xs) :: l)
    | _, _ => none
def hidK (hp : List Ck) : List (Nat × Ck) → List Ck
  | [] => hp
  | (i, _) :: r => hidK (setK hp i .gone) r
def shwK (hp : List Ck) : List (Nat × Ck) → List Ck
  | [] => hp
  | (i, c) :: r => shwK (setK hp i c) r
def curK (hp : List Ck) : List (Nat × Ck) → List (Nat × Ck)
  | [] => []
  | (i, _) :: r => (i, nthCk hp i) :: curK hp r
def hasK (i : Nat) : List (Nat × Ck) → Bool
  | [] => false
  | (j, c) :: r => bif Nat.beq i j then match c with
      | .blk _ _ => true
      | .own _ _ _ => true
      | _ => false
    else hasK i r
def stX (es : List (Nat × Ck)) (fr : List AV) (o : Oper) (p : Prop) : Prop :=
  match o.op, o.guard with
  | .store _ x _, none => match ldIdx (ev fr x) with
    | some i => bif hasK i es then p else False
    | none => False
  | _, _ => False
def alistX (O : Ops) (X : Cx) (tb : Tab) (n : Nat) (all : List Oper) (lt : List Nat) : Dr → List (Nat × Ck) → St → List Prop → (St → List Prop → Prop) → Prop
  | .fin, es, s, obs, K => alist O X tb none all (pick all lt) ⟨s.fr, shwK s.hp es⟩ obs K
  | .seg k is r, es, s, obs, K => match Nat.beq k 4 with
    | true => match is with
      | [i] => stX es s.fr (all.getD i default) (alist O X tb none all (pick all [i]) ⟨s.fr, shwK s.hp es⟩ obs (fun s' obs' => alistX O X tb n all lt r (curK s'.hp es) ⟨s'.fr, hidK s'.hp es⟩ obs' K))
      | _ => False
    | false => match Nat.beq k 0 with
      | true => alist O X tb (some n) all (pick all is) ⟨s.fr, shwK s.hp es⟩ obs (fun s' obs' => bif Nat.beq s'.hp.length n then alistX O X tb n all lt r es ⟨s'.fr, hidK s'.hp es⟩ obs' K else False)
      | false => alist O X tb (some n) all (pick all is) s obs (fun s' obs' => bif Nat.beq s'.hp.length n then alistX O X tb n all lt r es s' obs' K else False)
  | _, _, _, _, _ => False
/-- what follows, each but once in the term -/
def seqQ (F : St → (Exit → St → Prop) → Prop) (Q : Exit → St → Prop) (e : Exit) (s : St) : Prop := match e with
  | .normal => F s Q
  | e => Q e s
def blkE (id : Nat) : Exit → Exit
  | .exit i => bif Nat.beq i id then .normal else .exit i
  | e => e
def blkQ (id : Nat) (Q : Exit → St → Prop) (e : Exit) (s : St) : Prop := Q (blkE id e) s
def scpE : Exit → Bool
  | .goto _ => false
  | _ => true
def scpQ (Q : Exit → St → Prop) (e : Exit) (s : St) : Prop := bif scpE e then Q e s else False
def regQ (Q : Exit → St → Prop) (s : St) (obs : List Prop) : Prop := andL obs (Q .normal s)
/-- blocks that a region made, whatever the order: laid behind all others, in the order of the text (where a tree begins with an empty row) -/
def mvO (s : St) (j : Nat) (c : Ck) : St := ⟨mvF j s.hp.length s.fr, mvK j s.hp.length (setK s.hp j .gone ++ [c])⟩
def mvD (s : St) (j : Nat) : St := match nthCk s.hp j with
  | .blk T cs => mvO s j (.blk T cs)
  | .own T e l => mvO s j (.own T e l)
  | _ => s
def nrmA (s : St) : AV → St
  | .c (.ptr j _) => mvD s j
  | .c (.sl j) => mvD s j
  | _ => s
def nrm : List Oper → St → St
  | [], s => s
  | o :: r, s => match o.op, o.dst with
    | .alloc _, some d => nrm r (nrmA s (nthA s.fr d))
    | .buildSlice _ _ _, some d => nrm r (nrmA s (nthA s.fr d))
    | _, _ => nrm r s
def nrmI (l : List Oper) (s : St) : Dr → St
  | .seg _ [] _ => nrm l s
  | _ => s
/-- here the run stands still -/
@[irreducible] def Stop (Q : Exit → St → Prop) (e : Exit) (s : St) : Prop := Q e s
theorem Stop.of {Q : Exit → St → Prop} {e : Exit} {s : St} (h : Q e s) : Stop Q e s := by unfold Stop; exact h
theorem Stop.imp {Q : Exit → St → Prop} {e : Exit} {s : St} (h : Stop Q e s) : Q e s := by unfold Stop at h; exact h
def stpQ (Q : Exit → St → Prop) : Dr → Exit → St → Prop
  | .seg _ [] _, e, s => Stop Q e s
  | _, e, s => Q e s
def nrmQ (d : Dr) (l : List Oper) (Q : Exit → St → Prop) (s : St) (obs : List Prop) : Prop := regQ (stpQ Q d) (nrmI l s d) obs
/-- a tree of all the orders of a small region, each walked by itself -/
def isO : Dr → Option Dr
  | .seg k is d => match is with
    | [] => match Nat.beq k 9 with
      | true => some d
      | false => none
    | _ => none
  | _ => none
def awO (O : Ops) (X : Cx) (tb : Tab) (all : List Oper) (K : St → Prop) : Dr → St → Prop
  | .fin, s => K s
  | .alt i x y, s => alist O X tb none all (pick all [i]) s [] (fun s' obs => andL obs (awO O X tb all K x s')) ∧ altR y (awO O X tb all K y s)
  | _, _ => True
def awp (O : Ops) (X : Cx) (tb : Tab) (ps : Pis) : Code → St → (Exit → St → Prop) → Prop
  | .skip, s, Q => Q .normal s
  | .seq a b, s, Q => awp O X tb ps a s (seqQ (fun s' Q' => awp O X tb ps b s' Q') Q)
  | .cond c x y, s, Q => match ev s.fr c with
    | .c (.bool t) => cnd t (fun _ => awp O X tb ps x s Q) (fun _ => awp O X tb ps y s Q)
    | _ => False
  | .block id b, s, Q => awp O X tb ps b s (blkQ id Q)
  | .loop b, s, Q => X .loop b s Q
  | .rangeFunc g ps asg b, s, Q => X .rf g ps asg b s Q
  | .exit id, s, Q => Q (.exit id) s
  | .label _, s, Q => Q .normal s
  | .scope b, s, Q => awp O X tb ps b s (scpQ Q)
  | .ret, s, Q => Q .ret s
  | .region id ops draw, s, Q => match draw with
    | false => alist O X tb none ops.toList ops.toList ⟨s.fr, frzL tb s.fr ops.toList ops.toList s.hp⟩ [] (regQ Q)
    | true => match getPi ps id with
      | some (d, lt) => match isO d with
       | some d' => awO O X tb ops.toList (Q .normal) d' ⟨s.fr, frzL tb s.fr ops.toList ops.toList s.hp⟩
       | none => match isX d with
        | false => alistD O X tb (some (frzL tb s.fr ops.toList ops.toList s.hp).length) ops.toList lt d ⟨s.fr, frzL tb s.fr ops.toList ops.toList s.hp⟩ [] (nrmQ d ops.toList Q)
        | true => match exK tb (frzL tb s.fr ops.toList ops.toList s.hp) ops.toList s.fr d with
          | some ix => match cntK (frzL tb s.fr ops.toList ops.toList s.hp) ix with
            | some es => alistX O X tb (frzL tb s.fr ops.toList ops.toList s.hp).length ops.toList lt d es ⟨s.fr, hidK (frzL tb s.fr ops.toList ops.toList s.hp) es⟩ [] (regQ Q)
            | none => False
          | none => False
      | none => False
  | _, _, _ => False
end Go.Proofs.YtmnhfaaaaejpaaaGreat
