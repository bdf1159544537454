/-
  Models of code, as functions into Option: words, and how the symbolic run goes along with them. No program here.
-/
import Derived.Test.YtmnhfaaaaejpaaaGreatSymTrue
import Derived.LoopN
namespace Go.Proofs.YtmnhfaaaaejpaaaGreat
open Go.RowKit

/-! equations that the runs use: made here, once -/
theorem len1_all (O : Ops) (tb : Tab) (hp : List Ck) (T : TypeId) (v : AV) : len1 O tb hp T v = len1 O tb hp T v := by
  rw [len1.eq_def]

/-! tests -/
def okI (k : IntKind) (n : Int) : Bool := decide (k.wrap n = n)
def okNz (n : Int) : Bool := decide (n ≠ 0)
def okIdx (i : Int) (n : Nat) : Bool := decide (0 ≤ i ∧ i < (n : Int))
def okKin (k n : Nat) : Bool := decide (k < n)
def okRoom (n : Nat) : Bool := decide (n ≤ 1099511627776)
def okRng (i : Int) (n : Nat) : Bool := decide (0 ≤ i ∧ i ≤ (n : Int))
def grd {α : Type} (c : Bool) (x : Option α) : Option α := bif c then x else none
abbrev mi (a b : Int) : Int := if b < a then b else a
abbrev ma (a b : Int) : Int := if b > a then b else a

/-! loops -/
def iter {σ ε : Type} (B : σ → Option (σ ⊕ ε)) : Nat → σ → Option ε
  | 0, _ => none
  | n + 1, y => match B y with
    | none => none
    | some (.inl y') => iter B n y'
    | some (.inr e) => some e
def loop {σ ε : Type} (B : σ → Option (σ ⊕ ε)) (y : σ) : Option ε := iter B 1180591620717411303424 y

section
variable {α β σ ε : Type}
theorem grdS {c : Bool} {x : Option α} {r : α} (h : grd c x = some r) : c = true ∧ x = some r := by
  cases c with
  | true => exact ⟨rfl, h⟩
  | false => cases h
theorem condS {c : Bool} {x y : Option α} {r : α} (h : (bif c then x else y) = some r) : (c = true ∧ x = some r) ∨ (c = false ∧ y = some r) := by
  cases c with
  | true => exact .inl ⟨rfl, h⟩
  | false => exact .inr ⟨rfl, h⟩
theorem condT {c : Bool} {x y : Option α} {r : α} (h : (bif c then x else y) = some r) (hc : c = true) : x = some r := by subst hc; exact h
theorem condF {c : Bool} {x y : Option α} {r : α} (h : (bif c then x else y) = some r) (hc : c = false) : y = some r := by subst hc; exact h
theorem bindS {x : Option α} {f : α → Option β} {r : β} (h : Option.bind x f = some r) : ∃ e, x = some e ∧ f e = some r := by
  cases x with
  | none => cases h
  | some e => exact ⟨e, rfl, h⟩
theorem loopS {B : σ → Option (σ ⊕ ε)} {y : σ} {e : ε} (h : loop B y = some e) : ∃ I : Nat × σ → Prop, (I = fun y => iter B y.1 y.2 = some e) ∧ I (1180591620717411303424, y) := ⟨_, rfl, h⟩
def nextP (B : σ → Option (σ ⊕ ε)) (n : Nat) (e : ε) : σ ⊕ ε → Prop
  | .inl y => iter B n y = some e
  | .inr r => r = e
theorem iterS {B : σ → Option (σ ⊕ ε)} {n : Nat} {y : σ} {e : ε} (h : iter B n y = some e) : ∃ m, n = m + 1 ∧ ∃ x, B y = some x ∧ nextP B m e x := by
  cases n with
  | zero => cases h
  | succ m =>
    refine ⟨m, rfl, ?_⟩
    unfold iter at h
    cases hB : B y with
    | none => rw [hB] at h; cases h
    | some x =>
      rw [hB] at h
      cases x with
      | inl y' => exact ⟨_, rfl, h⟩
      | inr r => exact ⟨_, rfl, by injection h⟩
theorem nextI {B : σ → Option (σ ⊕ ε)} {n : Nat} {y : σ} {e : ε} {I : Nat × σ → Prop} (hI : I = fun y => iter B y.1 y.2 = some e) (h : nextP B n e (.inl y)) : I (n, y) := by rw [hI]; exact h
theorem exitI {B : σ → Option (σ ⊕ ε)} {n : Nat} {r e : ε} (h : nextP B n e (.inr r)) : r = e := h

/-- a loop that ends: by a measure -/
theorem loop_to {B : σ → Option (σ ⊕ ε)} (I : σ → Prop) (μ : σ → Nat) (R : ε → Prop) (hB : ∀ y, I y → ∃ x, B y = some x ∧ match x with
    | .inl y' => I y' ∧ μ y' < μ y
    | .inr e => R e) : ∀ (n : Nat) (y : σ), I y → μ y < n → ∃ e, iter B n y = some e ∧ R e := by
  intro n
  induction n with
  | zero => intro y _ h; omega
  | succ n ih =>
    intro y hy hn
    obtain ⟨x, hx, h⟩ := hB y hy
    unfold iter
    rw [hx]
    cases x with
    | inl y' => exact ih y' h.1 (by have := h.2; omega)
    | inr e => exact ⟨e, rfl, h⟩
theorem loop_is {B : σ → Option (σ ⊕ ε)} (I : σ → Prop) (μ : σ → Nat) (R : ε → Prop) {y : σ} (hy : I y) (hm : μ y < 1180591620717411303424) (hB : ∀ y, I y → ∃ x, B y = some x ∧ match x with
    | .inl y' => I y' ∧ μ y' < μ y
    | .inr e => R e) : ∃ e, loop B y = some e ∧ R e := loop_to I μ R hB _ y hy hm
end

section
variable {O : Ops} (hO : O = std)
include hO
theorem inr_of {k : IntKind} {n : Int} (h : okI k n = true) : O .inr k n := by subst hO; show k.wrap n = n; exact of_decide_eq_true h
theorem nz_of {n : Int} (h : okNz n = true) : O .nz n := by subst hO; show n ≠ 0; exact of_decide_eq_true h
theorem nil_of {n : Int} {K : Prop} (h : okNz n = true) (e : O .eq n 0 = true) : K := by subst hO; exact absurd (beq_iff_eq.1 e) (of_decide_eq_true h)
theorem idx_of {i : Int} {n : Nat} (h : okIdx i n = true) : O .idx i n := by subst hO; show 0 ≤ i ∧ i < (n : Int); exact of_decide_eq_true h
theorem kin_of {k n : Nat} (h : okKin k n = true) : O .kin k n := by subst hO; show k < n; exact of_decide_eq_true h
theorem room_of {n : Nat} (h : okRoom n = true) : O .room n := by subst hO; show n ≤ 1099511627776; exact of_decide_eq_true h
theorem rng_of {i : Int} {n : Nat} (h : okRng i n = true) : O .rng i n := by subst hO; show 0 ≤ i ∧ i ≤ (n : Int); exact of_decide_eq_true h
end

/-! ends with nil, or with a slice that was the call's own -/
def putCs (n : Nat) : List Ce → Option (List Ce)
  | [] => none
  | c :: l => match c with
    | .raw (.slice none 0 0) => some (.sl n :: l)
    | c => match putCs n l with
      | some l' => some (c :: l')
      | none => none
def putT (n : Nat) : List TE → List TE
  | [] => []
  | .one c :: l => match c with
    | .raw (.slice none 0 0) => .one (.sl n) :: l
    | c => .one c :: putT n l
  | .many cs :: l => match putCs n cs with
    | some cs' => .many cs' :: l
    | none => .many cs :: putT n l

section
variable {P : Program} {tb : Tab}
theorem nil_val {hp : List Ch} {A : Face} (hA : A = ⟨none, 0, 0, 1, []⟩ ∨ ∃ z, A = ⟨none, 0, 0, z, []⟩) : Ce.val (faces hp ++ [A]) (.sl hp.length) = some (.slice none 0 0) := by
  obtain ⟨z, rfl⟩ : ∃ z, A = ⟨none, 0, 0, z, []⟩ := hA.elim (fun h => ⟨1, h⟩) id
  simp [Ce.val, faces]
theorem putCs_val {fs fs' : Faces} (hf : FsLe fs fs') {n : Nat} (hn : Ce.val fs' (.sl n) = some (.slice none 0 0)) : ∀ {l l' : List Ce} {vs : List Value}, putCs n l = some l' → vals fs l = some vs → vals fs' l' = some vs := by
  intro l
  induction l with
  | nil => intro l' vs h; cases h
  | cons c l ih =>
    intro l' vs h hv
    unfold putCs at h
    have hv2 := allv_iff.1 hv
    split at h
    · injection h with h
      subst h
      cases vs with
      | nil => cases hv2
      | cons v vs =>
        simp only [List.map_cons, List.cons.injEq] at hv2
        refine allv_iff.2 ?_
        simp only [List.map_cons, List.cons.injEq]
        refine ⟨?_, ?_⟩
        · rw [hn, ← hv2.1]; rfl
        · exact allv_iff.1 (vals_mono hf (allv_iff.2 hv2.2))
    · split at h
      · rename_i l2 hl2
        injection h with h
        subst h
        cases vs with
        | nil => cases hv2
        | cons v vs =>
          simp only [List.map_cons, List.cons.injEq] at hv2
          refine allv_iff.2 ?_
          simp only [List.map_cons, List.cons.injEq]
          exact ⟨Ce.val_mono hf hv2.1, allv_iff.1 (ih hl2 (allv_iff.2 hv2.2))⟩
      · cases h
theorem tmono {fs fs' : Faces} (hf : FsLe fs fs') {l : List TE} {vs : List Value} (h : allv (l.map (TE.val fs)) = some vs) : allv (l.map (TE.val fs')) = some vs := allv_mono (fun _ _ => TE.val_mono hf) h
theorem putT_val {fs fs' : Faces} (hf : FsLe fs fs') {n : Nat} (hn : Ce.val fs' (.sl n) = some (.slice none 0 0)) : ∀ {l : List TE} {vs : List Value}, allv (l.map (TE.val fs)) = some vs → allv ((putT n l).map (TE.val fs')) = some vs := by
  intro l
  induction l with
  | nil => intro vs h; exact h
  | cons t l ih =>
    intro vs hv
    have hv2 := allv_iff.1 hv
    cases vs with
    | nil => cases hv2
    | cons v vs =>
      simp only [List.map_cons, List.cons.injEq] at hv2
      have hr : allv (l.map (TE.val fs)) = some vs := allv_iff.2 hv2.2
      cases t with
      | one c =>
        unfold putT
        split
        · refine allv_iff.2 ?_
          simp only [List.map_cons, List.cons.injEq]
          refine ⟨?_, allv_iff.1 (tmono hf hr)⟩
          show Ce.val fs' (.sl n) = _
          rw [hn, ← hv2.1]; rfl
        · refine allv_iff.2 ?_
          simp only [List.map_cons, List.cons.injEq]
          exact ⟨TE.val_mono hf hv2.1, allv_iff.1 (ih hr)⟩
      | many cs =>
        unfold putT
        split
        · rename_i cs' hcs
          refine allv_iff.2 ?_
          simp only [List.map_cons, List.cons.injEq]
          refine ⟨?_, allv_iff.1 (tmono hf hr)⟩
          have h1 := hv2.1
          simp only [TE.val] at h1 ⊢
          cases hcv : vals fs cs with
          | none => rw [hcv] at h1; cases h1
          | some us => rw [hcv] at h1; rw [putCs_val hf hn hcs hcv]; exact h1
        · refine allv_iff.2 ?_
          simp only [List.map_cons, List.cons.injEq]
          exact ⟨TE.val_mono hf hv2.1, allv_iff.1 (ih hr)⟩

theorem fin_nil {n0 : Nat} {R : AV → List Ck → Prop} {X : Cx} (hX : Good P n0 R X) (e : El) (n : Nat) {l : List TE} {ck : List Ck} (hn : ck.length = n) (h : X .fin (putT n l) (ck ++ [.arr true e []])) : X .fin l ck := by
  obtain ⟨w, F0, Q0, _, _, rfl, _⟩ := hX
  intro hp w' hck hpre hok vs hvs
  have hl : hp.length = n := by rw [← hn, ← hck, List.length_map]
  have hfa : faces (hp ++ [.arr true none 0 e []]) = faces hp ++ [⟨none, 0, 0, e.sz, []⟩] := by simp [faces, Ch.face]
  refine h (hp ++ [.arr true none 0 e []]) w' ?_ ?_ (hok.nil e) vs ?_
  · rw [List.map_append, hck]; rfl
  · rw [hfa]; exact hpre.trans (FsLe.app _ _)
  · rw [hfa]
    refine putT_val (FsLe.app _ _) ?_ hvs
    rw [← hl]
    exact nil_val (.inr ⟨_, rfl⟩)
theorem fin_frz {n0 : Nat} {R : AV → List Ck → Prop} {X : Cx} (hX : Good P n0 R X) (i : Nat) {l : List TE} {ck : List Ck} (h : X .fin l (setK ck i (ownK (nthCk ck i)))) : X .fin l ck := by
  obtain ⟨w, F0, Q0, _, _, rfl, _⟩ := hX
  intro hp w' hck hpre hok vs hvs
  have hs : SatH ⟨w, F0, []⟩ hp ⟨[], ck⟩ { tmps := #[], defers := [] } w' := ⟨hck, fun t => .inl rfl, Nat.zero_le _, rfl, hpre, hok⟩
  obtain ⟨hp', hs', hf⟩ := frz_one hs i
  exact h hp' w' hs'.ck hs'.pre hs'.ok vs (by rw [hf]; exact hvs)

/-! a loop of so many rounds -/
def unr (O : Ops) (X : Cx) (tb : Tab) (ps : Pis) (b : Code) (Q : Exit → St → Prop) : Nat → St → Prop
  | 0, _ => False
  | n + 1, s => awp O X tb ps b s (fun e s' => match e with
    | .normal => unr O X tb ps b Q n s'
    | e => Q e s')
theorem loop_unroll (ht : TabOk P tb) (he : EqOk P tb) (hm : P.follows .mixedOrders = true) (ps : Pis) {n0 : Nat} {R : AV → List Ck → Prop} {O : Ops} {X : Cx} (hO : O = std) (hX : Good P n0 R X) {b : Code} {s : St} {Q : Exit → St → Prop} (n : Nat) (hr : regsB ps b = true) (h : unr O X tb ps b Q n s) : X .loop b s Q := by
  subst hO
  obtain ⟨w, F0, Q0, _, _, rfl, _⟩ := hX
  intro a w' hs
  refine both_loop_rounds n ?_
  induction n generalizing s a w' with
  | zero => exact h.elim
  | succ n ih =>
    rw [bRounds_succ]
    refine both_mono (awp_ok ht he hm h hs hr) fun e a w hq => ?_
    obtain ⟨s', hs', hq⟩ := hq
    cases e with
    | normal => exact ih hq a w hs'
    | exit id => exact ⟨s', hs', hq⟩
    | goto l => exact ⟨s', hs', hq⟩
    | ret => exact ⟨s', hs', hq⟩
    | panic c => exact ⟨s', hs', hq⟩
    | outgrown => exact ⟨s', hs', hq⟩

/-! nil as an empty slice of the call's own, ahead of a loop -/
theorem HOk.reblk {B w : World} {hp : List Ch} (h : HOk B hp w) {i g : Nat} {T : TypeId} {cs cs' : List Ce} (hi : hp[i]? = some (.blk g T cs)) (hv : vals (faces hp) cs' = vals (faces hp) cs) : HOk B (hp.set i (.blk g T cs')) w := by
  have hfs : faces (hp.set i (.blk g T cs')) = faces hp := faces_set hi rfl
  have hil := (List.getElem?_eq_some_iff.1 hi).1
  have key : ∀ (j : Nat) d', (hp.set i (.blk g T cs'))[j]? = some d' → (j = i ∧ d' = .blk g T cs') ∨ (j ≠ i ∧ hp[j]? = some d') := fun j d' hj => by
    rw [List.getElem?_set] at hj
    split at hj
    · rename_i e1
      simp at hj
      exact .inl ⟨e1.symm, hj.symm⟩
    · rename_i e1; exact .inr ⟨fun e => e1 e.symm, hj⟩
  refine ⟨h.bel, fun j d hj => ?_, fun j k d e hjk hj hk hw b h1 h2 => ?_⟩
  · rw [hfs]
    rcases key j d hj with ⟨rfl, rfl⟩ | ⟨_, hj'⟩
    · obtain ⟨vs, g1, g2⟩ := h.ok _ _ hi
      exact ⟨vs, by rw [hv]; exact g1, g2⟩
    · exact h.ok j d hj'
  · rcases key j d hj with ⟨rfl, rfl⟩ | ⟨_, hj'⟩ <;> rcases key k e hk with ⟨rfl, rfl⟩ | ⟨_, hk'⟩
    · exact absurd rfl hjk
    · exact h.sep _ k (.blk g T cs) e hjk hi hk' rfl b h1 h2
    · exact h.sep j _ d (.blk g T cs) hjk hj' hi hw b h1 h2
    · exact h.sep j k d e hjk hj' hk' hw b h1 h2
theorem frOk_mono {fs fs' : Faces} (hf : FsLe fs fs') {fr : List AV} {tm : Array Value} (h : FrOk fs fr tm) : FrOk fs' fr tm := fun t => AV.rel_mono hf (h t)
theorem nilC_sat {B : Bs} {s : St} {T : TypeId} {cs : List Ce} (E : TypeId) (e : El) (i k : Nat) (h1 : nthCk s.hp i = .blk T cs) (h2 : nthC cs k = some (.raw (.slice none 0 0))) (a : Act) (w : World) (hs : Sat B s a w) :
    Sat B ⟨s.fr, setK s.hp i (.blk T (setC cs k (.sl s.hp.length))) ++ [.own E e []]⟩ a w := by
  obtain ⟨hp, hs⟩ := hs
  have hlen : hp.length = s.hp.length := by rw [← hs.ck, List.length_map]
  rw [← hs.ck] at h1
  obtain ⟨d, hd, hc⟩ := nthCk_some h1 (by simp)
  cases d <;> simp [Ch.ck] at hc
  rename_i g T' cs'
  obtain ⟨rfl, rfl⟩ := hc
  have hil := (List.getElem?_eq_some_iff.1 hd).1
  have hok1 := hs.ok.nilOwn E e
  have hd1 : (hp ++ [Ch.own none 0 E e []])[i]? = some (.blk g T' cs') := by rw [List.getElem?_append_left hil]; exact hd
  have hfx : FsLe (faces hp) (faces (hp ++ [.own none 0 E e []])) := faces_app _ _
  obtain ⟨vs, g1, g2⟩ := hok1.ok i _ hd1
  have hsl : (Ce.sl s.hp.length).val (faces (hp ++ [.own none 0 E e []])) = some (.slice none 0 0) := by rw [← hlen]; simp [Ce.val, face_new, Ch.face]
  have hv : vals (faces (hp ++ [.own none 0 E e []])) (setC cs' k (.sl s.hp.length)) = vals (faces (hp ++ [.own none 0 E e []])) cs' := by
    rw [vals_set g1 hsl k, g1]
    rw [nthC_eq] at h2
    obtain ⟨v, hv1, hv2⟩ := vals_get g1 h2
    simp only [Ce.val, Option.some.injEq] at hv2
    subst hv2
    congr 1
    refine List.ext_getElem? fun j => ?_
    rw [List.getElem?_set]
    split
    · rename_i e1; subst e1; rw [hv1]; simp [(List.getElem?_eq_some_iff.1 hv1).1]
    · rfl
  have hok2 := hok1.reblk hd1 hv
  have hf2 : faces ((hp ++ [Ch.own none 0 E e []]).set i (.blk g T' (setC cs' k (.sl s.hp.length)))) = faces (hp ++ [.own none 0 E e []]) := faces_set hd1 rfl
  refine ⟨_, ⟨?_, ?_, hs.sz, hs.nd, ?_, hok2⟩⟩
  · rw [List.map_set, List.map_append, hs.ck, setK_eq, List.set_append_left]
    · rfl
    · rw [← hlen]; exact hil
  · rw [hf2]; exact frOk_mono hfx hs.fr
  · rw [hf2]; exact hs.pre.trans hfx
theorem nilS_sat {B : Bs} {s : St} (E : TypeId) (e : El) (t : Nat) (h1 : nthA s.fr t = .c (.raw (.slice none 0 0))) (a : Act) (w : World) (hs : Sat B s a w) :
    Sat B ⟨setA s.fr t (.c (.sl s.hp.length)), s.hp ++ [.own E e []]⟩ a w := by
  obtain ⟨hp, hs⟩ := hs
  have hlen : hp.length = s.hp.length := by rw [← hs.ck, List.length_map]
  have hfx : FsLe (faces hp) (faces (hp ++ [.own none 0 E e []])) := faces_app _ _
  have hsl : (Ce.sl s.hp.length).val (faces (hp ++ [.own none 0 E e []])) = some (.slice none 0 0) := by rw [← hlen]; simp [Ce.val, face_new, Ch.face]
  refine ⟨hp ++ [.own none 0 E e []], ⟨by rw [List.map_append, hs.ck]; rfl, fun j => ?_, by rw [setA_len]; exact hs.sz, hs.nd, hs.pre.trans hfx, hs.ok.nilOwn E e⟩⟩
  show AV.rel _ (nthA (setA s.fr t (.c (.sl s.hp.length))) j) _
  rw [nthA_setA]
  split
  · rename_i hj
    obtain ⟨rfl, _⟩ := hj
    have h2 := (hs.fr j)
    rw [h1] at h2
    have h3 := h2.resolve_left (by simp)
    simp only [AV.val, Ce.val, Option.some.injEq] at h3
    right
    rw [← h3]
    exact hsl
  · exact AV.rel_mono hfx (hs.fr j)
theorem loop_nilC {n0 : Nat} {R : AV → List Ck → Prop} {O : Ops} {X : Cx} (_hO : O = std) (hX : Good P n0 R X) (E : TypeId) (e : El) (i k : Nat) {b : Code} {s : St} {Q : Exit → St → Prop} {T : TypeId} {cs : List Ce} (h1 : nthCk s.hp i = .blk T cs) (h2 : nthC cs k = some (.raw (.slice none 0 0)))
    (h : X .loop b ⟨s.fr, setK s.hp i (.blk T (setC cs k (.sl s.hp.length))) ++ [.own E e []]⟩ Q) : X .loop b s Q := by
  obtain ⟨w, F0, Q0, _, _, rfl, _⟩ := hX
  exact fun a w' hs => h a w' (nilC_sat E e i k h1 h2 a w' hs)
theorem loop_nilS {n0 : Nat} {R : AV → List Ck → Prop} {O : Ops} {X : Cx} (_hO : O = std) (hX : Good P n0 R X) (E : TypeId) (e : El) (t : Nat) {b : Code} {s : St} {Q : Exit → St → Prop} (h1 : nthA s.fr t = .c (.raw (.slice none 0 0)))
    (h : X .loop b ⟨setA s.fr t (.c (.sl s.hp.length)), s.hp ++ [.own E e []]⟩ Q) : X .loop b s Q := by
  obtain ⟨w, F0, Q0, _, _, rfl, _⟩ := hX
  exact fun a w' hs => h a w' (nilS_sat E e t h1 a w' hs)

/-! nil among a call's arguments -/
def putA (n : Nat) : AV → Option AV
  | .c c => match c with
    | .raw (.slice none 0 0) => some (.c (.sl n))
    | _ => none
  | .agg l => match putCs n l with
    | some l' => some (.agg l')
    | none => none
  | _ => none
def putAs (n : Nat) : List AV → List AV
  | [] => []
  | x :: l => match putA n x with
    | some y => y :: l
    | none => x :: putAs n l
theorem putA_val {fs fs' : Faces} (hf : FsLe fs fs') {n : Nat} (hn : Ce.val fs' (.sl n) = some (.slice none 0 0)) {x y : AV} {v : Value} (h : putA n x = some y) (hv : x.val fs = some v) : y.val fs' = some v := by
  unfold putA at h
  split at h
  · split at h
    · injection h with h
      subst h
      show Ce.val fs' (.sl n) = _
      rw [hn, ← hv]; rfl
    · cases h
  · split at h
    · rename_i l _ l' hl
      injection h with h
      subst h
      simp only [AV.val] at hv ⊢
      cases hc : vals fs l with
      | none => rw [hc] at hv; cases hv
      | some us => rw [hc] at hv; rw [putCs_val hf hn hl hc]; exact hv
    · cases h
  · cases h
theorem putAs_val {fs fs' : Faces} (hf : FsLe fs fs') {n : Nat} (hn : Ce.val fs' (.sl n) = some (.slice none 0 0)) : ∀ {l : List AV} {vs : List Value}, allv (l.map (AV.val fs)) = some vs → allv ((putAs n l).map (AV.val fs')) = some vs := by
  intro l
  induction l with
  | nil => intro vs h; exact h
  | cons x l ih =>
    intro vs hv
    have hv2 := allv_iff.1 hv
    cases vs with
    | nil => cases hv2
    | cons v vs =>
      simp only [List.map_cons, List.cons.injEq] at hv2
      have hr : allv (l.map (AV.val fs)) = some vs := allv_iff.2 hv2.2
      unfold putAs
      split
      · rename_i y hy
        refine allv_iff.2 ?_
        simp only [List.map_cons, List.cons.injEq]
        exact ⟨putA_val hf hn hy hv2.1, allv_iff.1 (allv_mono (fun _ _ => AV.val_mono hf) hr)⟩
      · refine allv_iff.2 ?_
        simp only [List.map_cons, List.cons.injEq]
        exact ⟨AV.val_mono hf hv2.1, allv_iff.1 (ih hr)⟩
theorem call_nil {n0 : Nat} {R : AV → List Ck → Prop} {O : Ops} {X : Cx} (_hO : O = std) (hX : Good P n0 R X) (e : El) (n : Nat) {q : Bool} {f : FuncId} {avs : List AV} {s : St} {K : AV → St → Prop} (hn : s.hp.length = n)
    (h : X .call q f (putAs n avs) ⟨s.fr, s.hp ++ [.arr true e []]⟩ K) : X .call q f avs s K := by
  obtain ⟨w, F0, Q0, _, _, rfl, _⟩ := hX
  rcases h with h | ⟨hcB, h⟩
  · refine Or.inl fun hp w' hck hok vs hvs => ?_
    have hl : hp.length = n := by rw [← hn, ← hck, List.length_map]
    have hfx : FsLe (faces hp) (faces (hp ++ [.arr true none 0 e []])) := faces_app _ _
    obtain ⟨v, u, hp', h1, h2, h3, h4, h5, h6⟩ := h (hp ++ [.arr true none 0 e []]) w' (by rw [List.map_append, hck]; rfl) (hok.nil e) vs (putAs_val hfx (by rw [← hl]; simp [Ce.val, face_new, Ch.face]) hvs)
    exact ⟨v, u, hp', h1, h2, hfx.trans h3, h4, fun hq => ⟨(h5 hq).1, (News.one (fun hw => by cases hw)).trans (Nat.le_refl _) (h5 hq).2⟩, h6⟩
  refine Or.inr ⟨hcB, fun hp w' hck hok vs hvs => ?_⟩
  have hl : hp.length = n := by rw [← hn, ← hck, List.length_map]
  have hfx : FsLe (faces hp) (faces (hp ++ [.arr true none 0 e []])) := faces_app _ _
  refine Calls.mono (h (hp ++ [.arr true none 0 e []]) w' (by rw [List.map_append, hck]; rfl) (hok.nil e) vs (putAs_val hfx ?_ hvs)) fun en w2 hpost => ?_
  · rw [← hl]; simp [Ce.val, face_new, Ch.face]
  · obtain ⟨v, u, hp', h1, h2, h3, h4, h5, h6⟩ := hpost
    exact ⟨v, u, hp', h1, h2, hfx.trans h3, h4, fun hq => ⟨(h5 hq).1, (News.one (fun hw => by cases hw)).trans (Nat.le_refl _) (h5 hq).2⟩, h6⟩
end
end Go.Proofs.YtmnhfaaaaejpaaaGreat
