/-
  A symbolic run: statements do what it says. No program here.
-/
import Derived.Test.YtmnhfaaaaejpaaaGreatSymEff
import Derived.Deep.LoopGhost
import Derived.Scope
namespace Go.Proofs.YtmnhfaaaaejpaaaGreat
open Go.RowKit

/-- where a call begins: its world, the blocks of its arguments -/
structure Bs where
  w : World
  F : Faces
  D : List Deferred
structure SatH (B : Bs) (hp : List Ch) (s : St) (a : Act) (w : World) : Prop where
  ck : hp.map Ch.ck = s.hp
  fr : FrOk (faces hp) s.fr a.tmps
  sz : s.fr.length ≤ a.tmps.size
  nd : a.defers = B.D
  pre : FsLe B.F (faces hp)
  ok : HOk B.w hp w
def Sat (B : Bs) (s : St) (a : Act) (w : World) : Prop := ∃ hp, SatH B hp s a w
def lift (B : Bs) (Q : Exit → St → Prop) (e : Exit) (a : Act) (w : World) : Prop := ∃ s, Sat B s a w ∧ Q e s

def callB (P : Program) (f : FuncId) : Bool := match P.funcs[f]? with
  | some fn => !(fn.name == "runtime.NumGoroutine") && fn.body.isSome
  | none => false
def semCall (P : Program) (B : Bs) (q : Bool) (f : Nat) (args : List AV) (s : St) (K : AV → St → Prop) : Prop :=
  (∀ hp w, hp.map Ch.ck = s.hp → HOk B.w hp w → ∀ vs, allv (args.map (AV.val (faces hp))) = some vs →
    ∃ v u hp', (callFunc f vs.toArray).run P w = .ok (.value u) w ∧ v.rel (faces hp') u ∧ FsLe (faces hp) (faces hp') ∧ HOk B.w hp' w ∧ (q = true → Below w.heap.size w w ∧ News w hp hp') ∧ K v ⟨s.fr, hp'.map Ch.ck⟩) ∨
  callB P f = true ∧ ∀ hp w, hp.map Ch.ck = s.hp → HOk B.w hp w → ∀ vs, allv (args.map (AV.val (faces hp))) = some vs →
    Calls P f vs.toArray w fun e w' => ∃ v u hp', e = .returned u ∧ v.rel (faces hp') u ∧ FsLe (faces hp) (faces hp') ∧ HOk B.w hp' w' ∧ (q = true → Below w.heap.size w w' ∧ News w hp hp') ∧ K v ⟨s.fr, hp'.map Ch.ck⟩
def semLoop (P : Program) (B : Bs) (b : Code) (s : St) (Q : Exit → St → Prop) : Prop := ∀ a w, Sat B s a w → Both P (.loop b) (lift B Q) a w
def semRf (P : Program) (B : Bs) (g : Operand) (ps : Array Tmp) (asg b : Code) (s : St) (Q : Exit → St → Prop) : Prop := ∀ a w, Sat B s a w → (Code.rangeFunc g ps asg b).wp P (lift B Q) a w
def mkX (P : Program) (B : Bs) (fin : List TE → List Ck → Prop) : Cx
  | .call => semCall P B
  | .loop => semLoop P B
  | .fin => fin
  | .rf => semRf P B

section
variable {P : Program} {tb : Tab} {B : Bs} {w : World} {hp : List Ch} {a : Act} {o : Oper} {s : St} {fin : List TE → List Ck → Prop}

theorem nthA_setA : ∀ (l : List AV) (d t : Nat) (v : AV), nthA (setA l d v) t = if t = d ∧ d < l.length then v else nthA l t := by
  intro l
  induction l with
  | nil => intro d t v; simp [setA, nthA]
  | cons x l ih =>
    intro d t v
    cases d with
    | zero => cases t <;> simp [setA, nthA]
    | succ d => cases t <;> simp [setA, nthA, ih]
theorem setA_len : ∀ (l : List AV) (d : Nat) (v : AV), (setA l d v).length = l.length := by
  intro l
  induction l with
  | nil => intro d v; rfl
  | cons x l ih => intro d v; cases d <;> simp [setA, ih]
theorem nthA_lt : ∀ (l : List AV) (t : Nat), nthA l t ≠ .junk → t < l.length := by
  intro l
  induction l with
  | nil => intro t h; simp [nthA] at h
  | cons x l ih =>
    intro t h
    cases t with
    | zero => simp
    | succ t => have := ih t h; simp; omega

theorem put_ok (h : SatH B hp s a w) {w' : World} {hp' : List Ch} {ck : List Ck} (hck : hp'.map Ch.ck = ck) (hf : FsLe (faces hp) (faces hp')) (ho : HOk B.w hp' w') {d : Option Nat} {v : AV} {u : Value} (hv : v.rel (faces hp') u) :
    SatH B hp' (St.put ⟨s.fr, ck⟩ d v) (a.put d u) w' := by
  cases d with
  | none => exact ⟨hck, fun t => AV.rel_mono hf (h.fr t), h.sz, h.nd, h.pre.trans hf, ho⟩
  | some d =>
    refine ⟨hck, fun t => ?_, by simp [St.put, setA_len, Act.put]; exact h.sz, h.nd, h.pre.trans hf, ho⟩
    have h1 := h.sz
    simp only [St.put, Act.put, nthA_setA]
    split
    · rename_i hc
      obtain ⟨rfl, hlt⟩ := hc
      have : (a.tmps.setIfInBounds t u).getD t undef = u := by
        rw [Array.getD_eq_getD_getElem?, Array.getElem?_setIfInBounds_self_of_lt (by omega)]; rfl
      rw [this]; exact hv
    · rename_i hc
      by_cases hd : d = t
      · subst hd
        have hlt : ¬ d < s.fr.length := fun h => hc ⟨rfl, h⟩
        have : nthA s.fr d = .junk := by
          by_cases hj : nthA s.fr d = .junk
          · exact hj
          · exact absurd (nthA_lt _ _ hj) hlt
        exact .inl this
      · have : (a.tmps.setIfInBounds d u).getD t undef = a.tmps.getD t undef := by
          rw [Array.getD_eq_getD_getElem?, Array.getD_eq_getD_getElem?, Array.getElem?_setIfInBounds_ne hd]
        rw [this]; exact AV.rel_mono hf (h.fr t)
theorem undef_ok (fs : Faces) : undefA.rel fs undef := .inr rfl
/-- a slot that is known anew -/
theorem know_ok (h : SatH B hp s a w) {d : Nat} {v : AV} (hv : v.rel (faces hp) (a.tmps.getD d undef)) : SatH B hp ⟨setA s.fr d v, s.hp⟩ a w := by
  refine ⟨h.ck, fun t => ?_, by simp [setA_len]; exact h.sz, h.nd, h.pre, h.ok⟩
  rw [nthA_setA]
  split
  · rename_i hc; rw [hc.1]; exact hv
  · exact h.fr t

theorem andL_iff : ∀ {l : List Prop} {K : Prop}, andL l K ↔ All l ∧ K := by
  intro l
  induction l with
  | nil => intro K; simp [andL, All]
  | cons p l ih => intro K; simp [andL, All, ih, and_assoc]
theorem appP_all : ∀ {l l' : List Prop}, All (appP l l') ↔ All l ∧ All l' := by
  intro l
  induction l with
  | nil => intro l'; simp [appP, All]
  | cons p l ih => intro l'; simp [appP, All, ih, and_assoc]

theorem cnd_or {b : Bool} {p q : Unit → Prop} (h : cnd b p q) : (b = true ∧ p ()) ∨ (b = false ∧ q ()) := by
  cases b
  · exact .inr ⟨rfl, h⟩
  · exact .inl ⟨rfl, h⟩

theorem doOp_all {O : Ops} {X : Cx} {lim : Option Nat} {obs : List Prop} {K : St → List Prop → Prop} (hK : ∀ s obs, K s obs → All obs) (h : doOp O X tb lim o s obs K) : All obs := by
  unfold doOp at h
  split at h
  · split at h
    · rcases cnd_or h with ⟨_, h⟩ | ⟨_, h⟩
      · exact hK _ _ h
      · exact hK _ _ h
    · exact h.elim
  · split at h
    · exact (appP_all.1 (hK _ _ h)).1
    · split at h
      · split at h
        · rename_i f cap _
          cases hn : noJunk (evs s.fr _) <;> rw [hn] at h
          · exact h.elim
          · exact (andL_iff.1 h).1
        · exact h.elim
      · split at h
        · split at h
          · exact hK _ _ h.2
          · split at h
            · exact hK _ _ h
            · exact h.elim
        · exact h.elim
      · split at h
        · split at h
          · exact (appP_all.1 (hK _ _ h)).1
          · exact h.elim
        · exact h.elim
      · exact h.elim
theorem alist_all {O : Ops} {X : Cx} {lim : Option Nat} {all : List Oper} {K : St → List Prop → Prop} (hK : ∀ s obs, K s obs → All obs) : ∀ {l : List Oper} {s : St} {obs : List Prop}, alist O X tb lim all l s obs K → All obs := by
  intro l
  induction l with
  | nil => intro s obs h; exact hK _ _ h
  | cons o l ih =>
    intro s obs h
    unfold alist at h
    split at h
    · exact doOp_all (fun _ _ h => ih h) h
    · split at h
      · exact h.elim
      · split at h
        · split at h
          · rcases cnd_or h with ⟨_, h⟩ | ⟨_, h⟩
            · exact doOp_all (fun _ _ h => ih h) h
            · exact ih h
          · rcases cnd_or h with ⟨_, h⟩ | ⟨_, h⟩
            · exact ih h
            · exact doOp_all (fun _ _ h => ih h) h
        · exact ih h
        · exact h.elim

/-- a step that is no call -/
theorem stepR_ok (ht : TabOk P tb) (he : EqOk P tb) (h : SatH B hp s a w) {lim : Option Nat} {v : AV} {ck : List Ck} {ob : List Prop} (hs : stepR std tb lim s o = some (v, ck, ob)) (ho : All ob) : Does P B.w hp a w o v ck := by
  unfold stepR at hs
  have hck := h.ck
  split at hs
  · rename_i r hr
    injection hs with hs
    subst hs
    rw [← hck] at hr
    exact eop_ok ht h.fr h.ok hr ho
  · cases hl : limOk lim s.fr o.op <;> rw [hl] at hs
    · cases hs
    · simp only [cond_true] at hs
      split at hs
      · rename_i v' ob' hp'
        simp only [Option.some.injEq, Prod.mk.injEq] at hs
        obtain ⟨rfl, rfl, rfl⟩ := hs
        rw [← hck] at hp'
        obtain ⟨u, hu, hv⟩ := pop_ok ht he h.fr h.ok (fun T x i _ _ c hc => h.ok.ok i c hc) hp' ho
        exact ⟨.value u, u, w, hp, hu, .inl rfl, ⟨hck, fun _ => ⟨Below.refl _ _, News.nil _ _⟩⟩, FsLe.refl _, h.ok, hv⟩
      · cases hs

theorem evs_ok (hf : FrOk (faces hp) s.fr a.tmps) : ∀ {xs : List Operand} {cap : List AV} {cv : List Value}, allv (cap.map (AV.val (faces hp))) = some cv → noJunk (evs s.fr xs) = true → allv ((appA (evs s.fr xs) cap).map (AV.val (faces hp))) = some (xs.map a.eval ++ cv) := by
  intro xs
  induction xs with
  | nil => intro cap cv h _; exact h
  | cons x xs ih =>
    intro cap cv h hn
    simp only [evs, appA] at hn ⊢
    have h1 : ev s.fr x ≠ .junk := by intro e; rw [e] at hn; simp [noJunk] at hn
    have h2 : noJunk (evs s.fr xs) = true := by
      unfold noJunk at hn; split at hn
      · rename_i e; cases e
      · rename_i e; injection e with e _; exact absurd e h1
      · rename_i e; injection e with _ e; rw [e]; exact hn
    have h3 := (ev_ok hf x).resolve_left h1
    simp [allv, h3, ih h h2]
theorem appA_nil : ∀ l : List AV, appA l [] = l := by
  intro l; induction l with
  | nil => rfl
  | cons x l ih => simp [appA, ih]
theorem ptrs_val {fs : Faces} : ∀ {l : List Nat}, allv ((ptrs l).map (AV.val fs)) = allv (l.map fun i => ptrAt fs i 0) := by
  intro l
  induction l with
  | nil => rfl
  | cons i l ih =>
    simp only [ptrs, List.map_cons, AV.val, Ce.val]
    cases ptrAt fs i 0 <;> simp [allv, ih]

/-! rows as arguments, rows laid into a matrix -/
theorem allv_appA {α : Type} {f : AV → Option α} : ∀ {l l' : List AV} {r r' : List α}, allv (l.map f) = some r → allv (l'.map f) = some r' → allv ((appA l l').map f) = some (r ++ r') := by
  intro l
  induction l with
  | nil => intro l' r r' h h'; simp [allv] at h; subst h; exact h'
  | cons x l ih =>
    intro l' r r' h h'
    simp only [List.map_cons] at h
    cases hx : f x with
    | none => rw [hx] at h; simp [allv] at h
    | some v =>
      rw [hx] at h
      simp only [allv] at h
      cases hl : allv (l.map f) with
      | none => rw [hl] at h; simp at h
      | some r0 =>
        rw [hl] at h
        simp at h
        subst h
        simp [appA, allv, hx, ih hl h']
theorem appK_eq (l r : List Ck) : appK l r = l ++ r := by cases r <;> simp [appK]
theorem al_ok {W w : World} {hp0 : List Ch} : ∀ {avs : List AV} {vs : List Value} {n0 : List Ch}, HOk W (hp0 ++ n0) w → allv (avs.map (AV.val (faces hp0))) = some vs →
    ∃ news, news.map Ch.ck = alH std (hp0.map Ch.ck) avs ∧ HOk W (hp0 ++ n0 ++ news) w ∧ allv ((alV (hp0.map Ch.ck) (hp0.length + n0.length) avs).map (AV.val (faces (hp0 ++ n0 ++ news)))) = some vs ∧ ∀ c ∈ news, c.wr = false := by
  intro avs
  induction avs with
  | nil =>
    intro vs n0 hk h
    exact ⟨[], rfl, by rw [List.append_nil]; exact hk, by simpa [alV, allv] using h, fun c hc => by cases hc⟩
  | cons x avs ih =>
    intro vs n0 hk h
    simp only [List.map_cons] at h
    cases hx : AV.val (faces hp0) x with
    | none => rw [hx] at h; simp [allv] at h
    | some v =>
      rw [hx] at h
      simp only [allv] at h
      cases hl : allv (avs.map (AV.val (faces hp0))) with
      | none => rw [hl] at h; simp at h
      | some r0 =>
        rw [hl] at h
        simp at h
        subst h
        have plain : (alV (hp0.map Ch.ck) (hp0.length + n0.length) (x :: avs) = x :: alV (hp0.map Ch.ck) (hp0.length + n0.length) avs) → (alH std (hp0.map Ch.ck) (x :: avs) = alH std (hp0.map Ch.ck) avs) →
            ∃ news, news.map Ch.ck = alH std (hp0.map Ch.ck) (x :: avs) ∧ HOk W (hp0 ++ n0 ++ news) w ∧ allv ((alV (hp0.map Ch.ck) (hp0.length + n0.length) (x :: avs)).map (AV.val (faces (hp0 ++ n0 ++ news)))) = some (v :: r0) ∧ ∀ c ∈ news, c.wr = false := fun e1 e2 => by
          obtain ⟨news, g1, g2, g3, g4⟩ := ih hk hl
          refine ⟨news, by rw [e2]; exact g1, g2, ?_, g4⟩
          have hm : AV.val (faces (hp0 ++ n0 ++ news)) x = some v := AV.val_mono (by simp only [faces, List.map_append, List.append_assoc]; exact FsLe.app _ _) hx
          rw [e1]
          simp only [List.map_cons, allv, hm, g3]
        cases x with
        | junk => exact plain rfl rfl
        | agg l => exact plain rfl rfl
        | tup l => exact plain rfl rfl
        | c c =>
        cases c with
        | rw i k =>
          cases hci : nthCk (hp0.map Ch.ck) i with
          | mat q ll =>
            have ev : ∀ n, alV (hp0.map Ch.ck) n (.c (.rw i k) :: avs) = .c (.sl n) :: alV (hp0.map Ch.ck) (n + 1) avs := fun n => by simp only [alV, hci]
            have eh : alH std (hp0.map Ch.ck) (.c (.rw i k) :: avs) = .arr false .i1 (std .get .v1 ll k) :: alH std (hp0.map Ch.ck) avs := by simp only [alH, hci]
            rw [ev, eh]
            obtain ⟨d, hd, hc⟩ := nthCk_some hci (by simp)
            cases d <;> simp [Ch.ck] at hc
            rename_i q' A c rs ll'
            obtain ⟨rfl, rfl⟩ := hc
            have hd2 : (hp0 ++ n0)[i]? = some (.mat q' A c rs ll') := by rw [List.getElem?_append_left (List.getElem?_eq_some_iff.1 hd).1]; exact hd
            have hfa : (faces hp0)[i]? = some ⟨A, ll'.length, c, 1, rs⟩ := by simp [faces, hd, Ch.face]
            have hrk := rowAt_some hfa hx
            have hM := (hk.ok i _ hd2).2
            have hro := row_ok hM hrk
            obtain ⟨Ar, cr, hv, r1, r2, r3⟩ := hro
            have hkl := (List.getElem?_eq_some_iff.1 hrk).1
            have hlk : ll'[k]? = some (ll'.getD k []) := by rw [List.getD_eq_getElem?_getD, List.getElem?_eq_getElem (by have := hM.1; omega)]; rfl
            have hk2 : HOk W (hp0 ++ n0 ++ [.arr false Ar cr .i1 (ll'.getD k [])]) w := by
              refine hk.pushR ⟨fun h => (by cases h), r1, r2, r3⟩ rfl (fun b hb j d hj hdw hdb => ?_)
              obtain ⟨h0, ad, had, hab⟩ := hb
              have hji : j ≠ i := fun e => by
                subst e
                rw [hd2] at hj
                injection hj with hj
                subst hj
                cases hdw
              refine hk.sep j i d _ hji hj hd2 hdw b hdb (.inr ⟨k, v, _, hrk, hlk, h0, ?_⟩)
              rw [hv, had, ← hab]; rfl
            have e0 : hp0 ++ n0 ++ [Ch.arr false Ar cr .i1 (ll'.getD k [])] = hp0 ++ (n0 ++ [Ch.arr false Ar cr .i1 (ll'.getD k [])]) := List.append_assoc ..
            rw [e0] at hk2
            obtain ⟨news, g1, g2, g3, g4⟩ := ih hk2 hl
            have e5 : hp0 ++ n0 ++ (Ch.arr false Ar cr .i1 (ll'.getD k []) :: news) = hp0 ++ (n0 ++ [Ch.arr false Ar cr .i1 (ll'.getD k [])]) ++ news := by simp
            have e6 : hp0.length + n0.length + 1 = hp0.length + (n0 ++ [Ch.arr false Ar cr .i1 (ll'.getD k [])]).length := by simp; omega
            refine ⟨.arr false Ar cr .i1 (ll'.getD k []) :: news, by simp only [List.map_cons, Ch.ck, g1] <;> rfl, by rw [e5]; exact g2, ?_, fun c hc => ?_⟩
            · rw [e5, e6]
              have hf : (faces (hp0 ++ (n0 ++ [Ch.arr false Ar cr .i1 (ll'.getD k [])]) ++ news))[hp0.length + n0.length]? = some ⟨Ar, (ll'.getD k []).length, cr, 1, []⟩ := by
                simp only [faces, List.getElem?_map]
                rw [List.getElem?_append_left (by simp <;> omega), List.getElem?_append_right (by omega), List.getElem?_append_right (by omega)]
                simp [Ch.face, El.sz]
              simp only [List.map_cons, AV.val, Ce.val, hf, allv, ← hv]
              rw [g3]
            · rcases List.mem_cons.1 hc with rfl | hc
              · rfl
              · exact g4 c hc
          | _ => exact plain (by simp only [alV, hci]) (by simp only [alH, hci])
        | _ => exact plain rfl rfl

theorem mvL_len (i n : Nat) : ∀ l : List Ce, (mvL i n l).length = l.length := by
  intro l; induction l with
  | nil => rfl
  | cons c l ih => simp [mvL, ih]
def mvCh (i n : Nat) : Ch → Ch
  | .blk g T cs => .blk g T (mvL i n cs)
  | .ro g T cs => .ro g T (mvL i n cs)
  | d => d
theorem mvCh_face (i n : Nat) (d : Ch) : (mvCh i n d).face = d.face := by cases d <;> rfl
theorem mvCh_wr (i n : Nat) (d : Ch) : (mvCh i n d).wr = d.wr := by cases d <;> rfl
theorem mvCh_touch (i n : Nat) (d : Ch) (b : Nat) : (mvCh i n d).touch b ↔ d.touch b := by cases d <;> simp [mvCh, Ch.touch, mvL_len]
theorem mvCh_faces (i n : Nat) (l : List Ch) : faces (l.map (mvCh i n)) = faces l := by
  simp only [faces, List.map_map]
  exact List.map_congr_left fun d _ => mvCh_face i n d
theorem mvK_eq (i n : Nat) : ∀ l : List Ch, (l.map (mvCh i n)).map Ch.ck = mvK i n (l.map Ch.ck) := by
  intro l
  induction l with
  | nil => rfl
  | cons d l ih =>
    simp only [List.map_cons, ih]
    cases d <;> rfl
section
variable {fs : Faces} {i n : Nat} (h1 : ∀ v, (Ce.sl i).val fs = some v → (Ce.sl n).val fs = some v) (h2 : ∀ k v, ptrAt fs i k = some v → ptrAt fs n k = some v)
include h1 h2
theorem mvC_val {c : Ce} {v : Value} (h : c.val fs = some v) : (mvC i n c).val fs = some v := by
  cases c with
  | sl j =>
    simp only [mvC]
    cases hb : Nat.beq j i with
    | false => exact h
    | true => have := Nat.eq_of_beq_eq_true hb; subst this; exact h1 v h
  | mpt j k =>
    simp only [mvC]
    cases hb : Nat.beq j i with
    | false => exact h
    | true => have := Nat.eq_of_beq_eq_true hb; subst this; exact h2 k v h
  | ptr j k =>
    simp only [mvC]
    cases hb : Nat.beq j i with
    | false => exact h
    | true => have := Nat.eq_of_beq_eq_true hb; subst this; exact h2 k v h
  | _ => exact h
theorem mvL_val : ∀ {l : List Ce} {vs : List Value}, vals fs l = some vs → vals fs (mvL i n l) = some vs := by
  intro l
  induction l with
  | nil => intro vs h; exact h
  | cons c l ih =>
    intro vs h
    simp only [vals, List.map_cons] at h
    cases hc : c.val fs with
    | none => rw [hc] at h; simp [allv] at h
    | some v =>
      rw [hc] at h
      simp only [allv] at h
      cases hl : allv (l.map (Ce.val fs)) with
      | none => rw [hl] at h; simp at h
      | some r =>
        rw [hl] at h
        simp at h
        subst h
        have := ih hl
        simp only [vals] at this
        simp [vals, mvL, allv, mvC_val h1 h2 hc, this]
theorem mvT_val : ∀ {l : List TE} {vs : List Value}, allv (l.map (TE.val fs)) = some vs → allv ((mvT i n l).map (TE.val fs)) = some vs := by
  intro l
  induction l with
  | nil => intro vs h; exact h
  | cons t l ih =>
    intro vs h
    simp only [List.map_cons] at h
    cases ht : TE.val fs t with
    | none => rw [ht] at h; simp [allv] at h
    | some v =>
      rw [ht] at h
      simp only [allv] at h
      cases hl : allv (l.map (TE.val fs)) with
      | none => rw [hl] at h; simp at h
      | some r =>
        rw [hl] at h
        simp at h
        subst h
        cases t with
        | one c =>
          have ht' : c.val fs = some v := ht
          simp [mvT, allv, TE.val, mvC_val h1 h2 ht', ih hl]
        | many cs =>
          simp only [TE.val] at ht
          cases hv : vals fs cs with
          | none => rw [hv] at ht; cases ht
          | some us =>
            rw [hv] at ht
            simp at ht
            subst ht
            simp [mvT, allv, TE.val, mvL_val h1 h2 hv, ih hl]
theorem mvA_val {a : AV} {v : Value} (h : a.rel fs v) : (mvA i n a).rel fs v := by
  rcases h with rfl | h
  · exact .inl rfl
  · right
    cases a with
    | c x => exact mvC_val h1 h2 h
    | junk => exact h
    | agg l =>
      simp only [AV.val, mvA] at h ⊢
      cases hv : vals fs l with
      | none => rw [hv] at h; cases h
      | some us => rw [hv] at h; rw [mvL_val h1 h2 hv]; exact h
    | tup l =>
      simp only [AV.val, mvA] at h ⊢
      cases hv : allv (l.map (TE.val fs)) with
      | none => rw [hv] at h; cases h
      | some us => rw [hv] at h; rw [mvT_val h1 h2 hv]; exact h
theorem mvCh_ok {W w : World} {d : Ch} (h : ChOk W w fs d) : ChOk W w fs (mvCh i n d) := by
  cases d with
  | blk g T cs => obtain ⟨vs, g1, g2⟩ := h; exact ⟨vs, mvL_val h1 h2 g1, g2⟩
  | ro g T cs => obtain ⟨vs, g1, g2⟩ := h; exact ⟨vs, mvL_val h1 h2 g1, g2⟩
  | _ => exact h
end
theorem nthA_mvF (i n : Nat) : ∀ (l : List AV) (t : Nat), nthA (mvF i n l) t = mvA i n (nthA l t) := by
  intro l
  induction l with
  | nil => intro t; rfl
  | cons x l ih => intro t; cases t <;> simp [mvF, nthA, ih]
theorem mvF_len (i n : Nat) : ∀ l : List AV, (mvF i n l).length = l.length := by
  intro l; induction l with
  | nil => rfl
  | cons c l ih => simp [mvF, ih]
theorem mvO_ok (hs : SatH B hp s a w) {j : Nat} {c : Ch} (hd : hp[j]? = some c) (hwr : c.wr = true) : ∃ hp', SatH B hp' (mvO s j c.ck) a w := by
  obtain ⟨L, hL⟩ : ∃ L, hp.set j (.gone c.face) = L := ⟨_, rfl⟩
  have hfs : faces L = faces hp := by rw [← hL]; exact faces_set (c' := .gone c.face) hd rfl
  have hLl : L.length = hp.length := by rw [← hL, List.length_set]
  have hfL : FsLe (faces hp) (faces (L ++ [c])) := by have := faces_app L c; rw [hfs] at this; exact this
  have hlay : HOk B.w (L ++ [c]) w := by
    have h1 : HOk B.w L w := by
      rw [← hL]
      exact hs.ok.change hd hwr rfl (Nat.le_refl _) rfl rfl rfl (fun _ _ _ => rfl) (fun b hb => hb.elim) trivial
    refine h1.push' (Below.refl _ _) ((hs.ok.ok j c hd).mono hfL) (fun b hb k d hk hdb => ?_)
    rw [← hL, List.getElem?_set] at hk
    split at hk
    · simp at hk
      obtain ⟨_, rfl⟩ := hk
      exact hdb
    · rename_i hne
      exact hs.ok.sep j k c d hne hd hk hwr b hb hdb
  have hfn : (faces (L ++ [c]))[hp.length]? = some c.face := by have := face_new L c; rw [hLl] at this; exact this
  have hfj : (faces (L ++ [c]))[j]? = some c.face := hfL _ _ (by simp [faces, hd])
  have v1 : ∀ v, (Ce.sl j).val (faces (L ++ [c])) = some v → (Ce.sl hp.length).val (faces (L ++ [c])) = some v := fun v h => by
    simp only [Ce.val, hfj, hfn] at h ⊢
    exact h
  have v2 : ∀ k v, ptrAt (faces (L ++ [c])) j k = some v → ptrAt (faces (L ++ [c])) hp.length k = some v := fun k v h => by
    simp only [ptrAt, hfj, hfn] at h ⊢
    exact h
  have hlen : s.hp.length = hp.length := by rw [← hs.ck, List.length_map]
  refine ⟨(L ++ [c]).map (mvCh j hp.length), ⟨?_, fun t => ?_, ?_, hs.nd, ?_, ?_⟩⟩
  · simp only [mvO, hlen]
    rw [mvK_eq, List.map_append, ← hL, List.map_set, setK_eq, hs.ck]
    rfl
  · simp only [mvO, hlen]
    rw [nthA_mvF, mvCh_faces]
    exact mvA_val v1 v2 (AV.rel_mono hfL (hs.fr t))
  · simp only [mvO]; rw [mvF_len]; exact hs.sz
  · rw [mvCh_faces]; exact hs.pre.trans hfL
  · refine ⟨hlay.bel, fun q e hq => ?_, fun q r e1 e2 hqr hq hr hw b hb1 hb2 => ?_⟩
    · rw [mvCh_faces]
      rw [List.getElem?_map] at hq
      cases hq' : (L ++ [c])[q]? with
      | none => rw [hq'] at hq; cases hq
      | some e' =>
        rw [hq'] at hq
        simp only [Option.map_some, Option.some.injEq] at hq
        subst hq
        exact mvCh_ok v1 v2 (hlay.ok q e' hq')
    · rw [List.getElem?_map] at hq hr
      cases hq' : (L ++ [c])[q]? with
      | none => rw [hq'] at hq; cases hq
      | some e1' =>
        cases hr' : (L ++ [c])[r]? with
        | none => rw [hr'] at hr; cases hr
        | some e2' =>
          rw [hq'] at hq
          rw [hr'] at hr
          simp only [Option.map_some, Option.some.injEq] at hq hr
          subst hq; subst hr
          rw [mvCh_touch] at hb1 hb2
          rw [mvCh_wr] at hw
          exact hlay.sep q r e1' e2' hqr hq' hr' hw b hb1 hb2
theorem mvD_ok (hs : SatH B hp s a w) (j : Nat) : ∃ hp', SatH B hp' (mvD s j) a w := by
  unfold mvD
  split
  · rename_i T cs hc
    rw [← hs.ck] at hc
    obtain ⟨d, hd, hc⟩ := nthCk_some hc (by simp)
    rw [← hc]
    exact mvO_ok hs hd (by cases d <;> simp [Ch.ck] at hc <;> rfl)
  · rename_i T e l hc
    rw [← hs.ck] at hc
    obtain ⟨d, hd, hc⟩ := nthCk_some hc (by simp)
    rw [← hc]
    exact mvO_ok hs hd (by cases d <;> simp [Ch.ck] at hc <;> rfl)
  · exact ⟨hp, hs⟩
theorem nrm_ok : ∀ (l : List Oper) {s : St}, Sat B s a w → Sat B (nrm l s) a w := by
  intro l
  induction l with
  | nil => intro s h; exact h
  | cons o l ih =>
    intro s h
    have key : ∀ v, Sat B (nrmA s v) a w := fun v => by
      obtain ⟨hp, h⟩ := h
      unfold nrmA
      split
      · exact mvD_ok h _
      · exact mvD_ok h _
      · exact ⟨hp, h⟩
    unfold nrm
    split
    · exact ih (key _)
    · exact ih (key _)
    · exact ih h
theorem stpQ_imp {Q : Exit → St → Prop} {d : Dr} {e : Exit} {s : St} (h : stpQ Q d e s) : Q e s := by
  unfold stpQ at h
  split at h
  · exact h.imp
  · exact h
theorem nrmI_ok {l : List Oper} {d : Dr} {s : St} (h : Sat B s a w) : Sat B (nrmI l s d) a w := by
  unfold nrmI
  split
  · exact nrm_ok _ h
  · exact h
theorem rst_ok (ht : TabOk P tb) (hs : SatH B hp s a w) {T : TypeId} {p x : Operand} (hop : o.op = .store T p x) {s' : St} {ob : List Prop} (h : rst std tb s T (ev s.fr p) (ev s.fr x) = some (s', ob)) (ho : All ob) :
    ∃ w' hp', (execOp a.eval o).run P w = .ok .skip w' ∧ SatH B hp' s' a w' := by
  unfold rst at h
  split at h
  · rename_i i k j hpx hxx
    have e1 := ev_c hs.fr hpx
    have e2 := ev_c hs.fr hxx
    split at h
    · rename_i T' U ll U' l hci hcj
      cases hb : (Nat.beq U U' && stoM.szOne tb T) with
      | false => rw [hb] at h; cases h
      | true =>
        rw [hb] at h
        simp only [Bool.and_eq_true] at hb
        simp only [cond_true, Option.some.injEq, Prod.mk.injEq] at h
        obtain ⟨rfl, rfl⟩ := h
        have := Nat.eq_of_beq_eq_true hb.1
        subst this
        obtain ⟨ti, hti, hts⟩ : ∃ ti, getTI tb T = some ti ∧ ti.size = 1 := by
          have hz := hb.2
          unfold stoM.szOne at hz
          split at hz
          · rename_i ti hti; exact ⟨ti, hti, Nat.eq_of_beq_eq_true hz⟩
          · cases hz
        rw [← hs.ck] at hci hcj
        obtain ⟨d, hd, hc⟩ := nthCk_some hci (by simp)
        cases d <;> simp [Ch.ck] at hc
        rename_i A c T2 U2 rs ll2
        obtain ⟨rfl, rfl, rfl⟩ := hc
        obtain ⟨dj, hdj, hc⟩ := nthCk_some hcj (by simp)
        cases dj <;> simp [Ch.ck] at hc
        rename_i Aj cj Tj ej lj
        obtain ⟨rfl, rfl, hc⟩ := hc
        cases hc
        have hkl : k < ll2.length := ho.1
        have hfi : (faces hp)[i]? = some ⟨A, ll2.length, c, 1, rs⟩ := by simp [faces, hd, Ch.face]
        have hfj : (faces hp)[j]? = some ⟨Aj, l.length, cj, 1, []⟩ := by simp [faces, hdj, Ch.face, El.sz]
        obtain ⟨m1, m2, m3, m4, m5⟩ := hs.ok.ok i _ hd
        obtain ⟨g, cap, cur, hA, hg, hcur, hput⟩ := ownsRow_put m2 hkl
        have hA2 := hA
        injection hA with q1 q2 q3
        subst q1
        simp only [Ce.val, ptrAt, hfi, hfj, Option.some.injEq] at e1 e2
        have hcells : (a.eval x).cells = #[.slice Aj l.length cj] := by rw [← e2]; rfl
        have hst := storeVar_at (ht _ _ hti) (v := a.eval x) (by rw [hcells, hts]; rfl) (by rw [hcells]; intro u hu; simp at hu; rw [hu]; rfl) (o' := k) hg (by omega)
        rw [hcells] at hst
        have hlay := hs.ok.layRow hd hdj hkl (cur := cur) hA2 (w' := w.setRow g (fillV k [.slice Aj l.length cj] cur.toList).toArray) rfl (hput _)
        obtain ⟨L, hL⟩ : ∃ L, (hp.set j (.gone (Ch.own Aj cj Tj .i1 l).face)).set i (.gone (Ch.mtw (some ⟨g, 0, none⟩) c T2 Tj rs ll2).face) = L := ⟨_, rfl⟩
        rw [hL] at hlay
        have hij : i ≠ j := fun e => by rw [e, hdj] at hd; cases hd
        have hfs1 : faces (hp.set j (.gone (Ch.own Aj cj Tj .i1 l).face)) = faces hp := faces_set (c' := .gone (Ch.own Aj cj Tj .i1 l).face) hdj rfl
        have hi2 : (hp.set j (.gone (Ch.own Aj cj Tj .i1 l).face))[i]? = some (.mtw (some ⟨g, 0, none⟩) c T2 Tj rs ll2) := by rw [List.getElem?_set, if_neg (fun e => hij e.symm)]; exact hd
        have hfs2 : faces L = faces hp := by rw [← hL]; exact (faces_set (c' := .gone (Ch.mtw (some ⟨g, 0, none⟩) c T2 Tj rs ll2).face) hi2 rfl).trans hfs1
        have hLl : L.length = hp.length := by rw [← hL, List.length_set, List.length_set]
        obtain ⟨N, hN⟩ : ∃ N, Ch.mtw (some ⟨g, 0, none⟩) c T2 Tj (rs.set k (.slice Aj l.length cj)) (ll2.set k l) = N := ⟨_, rfl⟩
        rw [hN] at hlay
        have hfL : FsLe (faces hp) (faces (L ++ [N])) := by have := faces_app L N; rw [hfs2] at this; exact this
        have hfn : (faces (L ++ [N]))[hp.length]? = some ⟨some ⟨g, 0, none⟩, ll2.length, c, 1, rs.set k (.slice Aj l.length cj)⟩ := by
          have := face_new L N
          rw [hLl] at this
          rw [this, ← hN]
          simp [Ch.face]
        have hfi2 := hfL _ _ hfi
        have v1 : ∀ v, (Ce.sl i).val (faces (L ++ [N])) = some v → (Ce.sl hp.length).val (faces (L ++ [N])) = some v := fun v h => by
          simp only [Ce.val, hfi2, hfn] at h ⊢
          exact h
        have v2 : ∀ k v, ptrAt (faces (L ++ [N])) i k = some v → ptrAt (faces (L ++ [N])) hp.length k = some v := fun k v h => by
          simp only [ptrAt, hfi2, hfn] at h ⊢
          exact h
        have hlen : s.hp.length = hp.length := by rw [← hs.ck, List.length_map]
        refine ⟨w.setRow g (fillV k [.slice Aj l.length cj] cur.toList).toArray, (L ++ [N]).map (mvCh i hp.length), ?_, ⟨?_, fun t => ?_, ?_, hs.nd, ?_, ?_⟩⟩
        · simp only [execOp, hop, ← e1, Instr.storeAt, Instr.sureAddr, Sem.run_bind, Sem.run_pure, Result.andThen_ok, Nat.zero_add, hst]
        · simp only [hlen]
          rw [List.map_append, List.map_append, mvK_eq, ← hL, List.map_set, List.map_set, setK_eq, setK_eq, hs.ck, ← hN]
          rfl
        · simp only [hlen]
          rw [nthA_mvF, mvCh_faces]
          exact mvA_val v1 v2 (AV.rel_mono hfL (hs.fr t))
        · rw [mvF_len]; exact hs.sz
        · rw [mvCh_faces]; exact hs.pre.trans hfL
        · refine ⟨hlay.bel, fun q e hq => ?_, fun q r e1 e2 hqr hq hr hw b hb1 hb2 => ?_⟩
          · rw [mvCh_faces]
            rw [List.getElem?_map] at hq
            cases hq' : (L ++ [N])[q]? with
            | none => rw [hq'] at hq; cases hq
            | some e' =>
              rw [hq'] at hq
              simp only [Option.map_some, Option.some.injEq] at hq
              subst hq
              exact mvCh_ok v1 v2 (hlay.ok q e' hq')
          · rw [List.getElem?_map] at hq hr
            cases hq' : (L ++ [N])[q]? with
            | none => rw [hq'] at hq; cases hq
            | some e1' =>
              cases hr' : (L ++ [N])[r]? with
              | none => rw [hr'] at hr; cases hr
              | some e2' =>
                rw [hq'] at hq
                rw [hr'] at hr
                simp only [Option.map_some, Option.some.injEq] at hq hr
                subst hq; subst hr
                rw [mvCh_touch] at hb1 hb2
                rw [mvCh_wr] at hw
                exact hlay.sep q r e1' e2' hqr hq' hr' hw b hb1 hb2
    · cases h
  · cases h

theorem doOp_ok (ht : TabOk P tb) (he : EqOk P tb) {lim : Option Nat} {obs : List Prop} {K : St → List Prop → Prop} (hK : ∀ s obs, K s obs → All obs) (h : doOp std (mkX P B fin) tb lim o s obs K) (hs : SatH B hp s a w)
    {next : Act → World → Prop} {Q : Exit → Act → World → Prop}
    (hn : ∀ s' obs' a' w' hp', K s' obs' → SatH B hp' s' a' w' → ((wrOp o.op = false ∨ ((∃ c, o.op = .call c) ∧ stepR std tb lim s o = none ∧ isSome' lim = true)) → Below w.heap.size w w' ∧ News w hp hp') → next a' w') : o.wp P a w next Q := by
  unfold doOp at h
  split at h
  · rename_i c x y hop
    split at h
    · rename_i t hc
      have e1 := bool_val (ev_c hs.fr hc)
      have key : ∀ z, (execOp a.eval o).run P w = .ok (.value (a.eval z)) w → K (s.put o.dst (ev s.fr z)) obs → o.wp P a w next Q := by
        intro z hz hk
        unfold Oper.wp
        rw [hz]
        refine hn _ _ _ _ hp hk ?_ (fun _ => ⟨Below.refl _ _, News.nil _ _⟩)
        have := put_ok hs hs.ck (FsLe.refl _) hs.ok (d := o.dst) (ev_ok hs.fr z)
        exact this
      rcases cnd_or h with ⟨rfl, h⟩ | ⟨rfl, h⟩
      · exact key x (by simp [execOp, hop, e1, asBool]) h
      · exact key y (by simp [execOp, hop, e1, asBool]) h
    · exact h.elim
  · split at h
    · rename_i op hop v ck ob hst
      have ho := (appP_all.1 (hK _ _ h)).2
      obtain ⟨n, u, w', hp', hr, hnu, ⟨h1, h2⟩, h3, h4, h5⟩ := stepR_ok ht he hs hst ho
      have hp2 := put_ok hs h1 h3 h4 (d := o.dst) h5
      have hcond : (wrOp o.op = false ∨ ((∃ c, o.op = .call c) ∧ stepR std tb lim s o = none ∧ isSome' lim = true)) → Below w.heap.size w w' ∧ News w hp hp' := by
        rintro (h6 | ⟨_, h6, _⟩)
        · exact h2 h6
        · have hst' : stepR std tb lim s o = some (v, ck, ob) := hst
          rw [hst'] at h6; cases h6
      unfold Oper.wp
      rw [hr]
      rcases hnu with rfl | ⟨rfl, rfl⟩
      · exact hn _ _ _ _ hp' h hp2 hcond
      · exact hn _ _ _ _ hp' h hp2 hcond
    · rename_i op hop hst
      split at h
      · rename_i c hopc
        split at h
        · rename_i f cap hcal
          cases hnj : noJunk (evs s.fr c.args.toList) <;> rw [hnj] at h
          · exact h.elim
          · simp only [cond_true] at h
            obtain ⟨_, hsem⟩ := andL_iff.1 h
            unfold callee at hcal
            split at hcal
            · rename_i x hcx
              split at hcal
              · rename_i f' l hx
                simp only [Option.some.injEq, Prod.mk.injEq] at hcal
                obtain ⟨rfl, rfl⟩ := hcal
                have e1 := ev_c hs.fr hx
                simp only [Ce.val] at e1
                split at e1
                · rename_i cv hcv
                  injection e1 with e1
                  have hargs0 := evs_ok (a := a) hs.fr (xs := c.args.toList) (cap := []) (cv := []) rfl hnj
                  rw [appA_nil, List.append_nil] at hargs0
                  obtain ⟨news, n1, n2, n3, n4⟩ := al_ok (n0 := []) (by rw [List.append_nil]; exact hs.ok) hargs0
                  rw [List.append_nil] at n2 n3
                  rw [List.length_nil, Nat.add_zero] at n3
                  have hfn : FsLe (faces hp) (faces (hp ++ news)) := by simp only [faces, List.map_append]; exact FsLe.app _ _
                  have hcap : allv ((ptrs l).map (AV.val (faces (hp ++ news)))) = some cv := by rw [ptrs_val]; exact allv_mono (fun _ _ => ptrAt_mono hfn) hcv
                  have hargs := allv_appA n3 hcap
                  have hck2 : (hp ++ news).map Ch.ck = appK s.hp (alH std s.hp (evs s.fr c.args.toList)) := by rw [appK_eq, List.map_append, n1, hs.ck]
                  have hlen : s.hp.length = hp.length := by rw [← hs.ck, List.length_map]
                  rw [← hlen, hs.ck] at hargs
                  have hnews : News w hp (hp ++ news) := ⟨news, rfl, fun c hc hw => by rw [n4 c hc] at hw; cases hw⟩
                  obtain ⟨callee, args, ts⟩ := c
                  simp only at hcx
                  subst hcx
                  rcases hsem with hext | ⟨hcB, hcall⟩
                  · obtain ⟨v, u, hp', hu, hv, hle, hok, hq, hk⟩ := hext (hp ++ news) w hck2 n2 _ hargs
                    have harr : args.map a.eval ++ cv.toArray = (args.toList.map a.eval ++ cv).toArray := by simp [← Array.toList_map]
                    have hrun : (execOp a.eval o).run P w = .ok (.value u) w := by
                      simp only [execOp, hopc, resolve, Sem.run_bind, ← e1, Deferred.ofValue, Sem.run_pure, Result.andThen_ok, invoke, Array.empty_append, harr, hu]
                    unfold Oper.wp
                    rw [hrun]
                    refine hn _ _ _ _ hp' hk (put_ok hs rfl (hfn.trans hle) hok (d := o.dst) hv) ?_
                    rintro (h6 | ⟨_, _, h6⟩)
                    · rw [hopc] at h6; cases h6
                    · exact ⟨(hq h6).1, hnews.trans (Nat.le_refl _) (hq h6).2⟩
                  have hC := hcall (hp ++ news) w hck2 n2 _ hargs
                  have hrun : (execOp a.eval o).run P w = .ok (.enter f' ((args.toList.map a.eval ++ cv).toArray)) w := by
                    unfold callB at hcB
                    split at hcB
                    · rename_i fn hfn
                      simp only [Bool.and_eq_true, Bool.not_eq_true'] at hcB
                      have hbn : fn.body.isNone = false := by
                        cases hb : fn.body with
                        | none => rw [hb] at hcB; simp at hcB
                        | some b => rfl
                      have harr : args.map a.eval ++ cv.toArray = (args.toList.map a.eval ++ cv).toArray := by simp [← Array.toList_map]
                      simp only [execOp, hopc, resolve, Sem.run_bind, ← e1, Deferred.ofValue, Sem.run_pure, Result.andThen_ok, invoke, callFunc, Array.empty_append, harr]
                      have hpr : (program).run P w = .ok P w := rfl
                      simp only [hpr, Result.andThen_ok, hfn, hcB.1, hbn, Bool.false_eq_true, if_false, Sem.run_pure]
                    · cases hcB
                  unfold Oper.wp
                  rw [hrun, Oper.upon_enter]
                  refine Calls.mono hC fun e w' hpost => ?_
                  obtain ⟨v, u, hp', rfl, hv, hle, hok, hq, hk⟩ := hpost
                  refine hn _ _ _ _ hp' hk (put_ok hs rfl (hfn.trans hle) hok (d := o.dst) hv) ?_
                  rintro (h6 | ⟨_, _, h6⟩)
                  · rw [hopc] at h6; cases h6
                  · exact ⟨(hq h6).1, hnews.trans (Nat.le_refl _) (hq h6).2⟩
                · cases e1
              · cases hcal
            · cases hcal
        · exact h.elim
      · rename_i bop T x y ty hopb
        split at h
        · split at h
          · rename_i t p hnc
            rw [← hs.ck] at hnc
            obtain ⟨b, hrun, hbp⟩ := nilc_ok (w := w) ht hs.fr hs.ok hopb hnc
            unfold Oper.wp
            rw [hrun]
            have hp2 : ∀ b' : Bool, b = b' → SatH B hp (s.put o.dst (.c (.bool b'))) (a.put o.dst (.bool b)) w := fun b' e => by
              subst e
              exact put_ok hs hs.ck (FsLe.refl _) hs.ok (d := o.dst) (.inr rfl)
            by_cases hbt : b = t
            · exact hn _ _ _ _ hp (h.1 (hbp hbt)) (hp2 t hbt) (fun _ => ⟨Below.refl _ _, News.nil _ _⟩)
            · have e2 : b = notB t := by cases b <;> cases t <;> simp_all [notB]
              exact hn _ _ _ _ hp h.2 (hp2 _ e2) (fun _ => ⟨Below.refl _ _, News.nil _ _⟩)
          · split at h
            · rename_i t hn2
              have hrun := nil2_ok (w := w) ht hs.fr hopb hn2
              unfold Oper.wp
              rw [hrun]
              exact hn _ _ _ _ hp h (put_ok hs hs.ck (FsLe.refl _) hs.ok (d := o.dst) (.inr rfl)) (fun _ => ⟨Below.refl _ _, News.nil _ _⟩)
            · exact h.elim
        · exact h.elim
      · rename_i T p x hopb
        split at h
        · split at h
          · rename_i s' ob hrs
            have ho := (appP_all.1 (hK _ _ h)).2
            obtain ⟨w', hp', hrun, hsat⟩ := rst_ok ht hs hopb hrs ho
            unfold Oper.wp
            rw [hrun]
            refine hn _ _ _ _ hp' h (put_ok hsat hsat.ck (FsLe.refl _) hsat.ok (d := o.dst) (undef_ok _)) ?_
            rintro (h6 | ⟨⟨_, h6⟩, _⟩)
            · rw [hopb] at h6; cases h6
            · rw [hopb] at h6; cases h6
          · exact h.elim
        · exact h.elim
      · exact h.elim

theorem dstAt_eq : ∀ (l : List Oper) (j : Nat), dstAt l j = (l.toArray[j]?).bind (·.dst) := by
  intro l
  induction l with
  | nil => intro j; simp [dstAt]
  | cons o l ih => intro j; cases j <;> simp [dstAt, ih]
theorem guard_ok {all : List Oper} (hs : SatH B hp s a w) {j d : Nat} (hd : dstAt all j = some d) {t : Bool} (ht : nthA s.fr d = .c (.bool t)) : yielded all.toArray a.tmps j = some t := by
  have h1 : d < a.tmps.size := Nat.lt_of_lt_of_le (nthA_lt s.fr d (by rw [ht]; simp)) hs.sz
  have h2 := hs.fr d
  rw [ht] at h2
  have h3 := h2.resolve_left (by simp)
  have h4 := bool_val (fs := faces hp) h3
  rw [Array.getD_eq_getD_getElem?, Array.getElem?_eq_getElem h1] at h4
  unfold yielded
  rw [← dstAt_eq, hd]
  simp only [Option.bind_some, Array.getElem?_eq_getElem h1]
  simp at h4
  rw [h4]
theorem guard_none {all : List Oper} (hs : SatH B hp s a w) {j d : Nat} (hd : dstAt all j = some d) {vs : Array Value} (ht : nthA s.fr d = .c (.raw (.tuple vs))) : yielded all.toArray a.tmps j = none := by
  have h1 : d < a.tmps.size := Nat.lt_of_lt_of_le (nthA_lt s.fr d (by rw [ht]; simp)) hs.sz
  have h2 := hs.fr d
  rw [ht] at h2
  have h3 := h2.resolve_left (by simp)
  simp only [AV.val, Ce.val, Option.some.injEq] at h3
  rw [Array.getD_eq_getD_getElem?, Array.getElem?_eq_getElem h1] at h3
  unfold yielded
  rw [← dstAt_eq, hd]
  simp only [Option.bind_some, Array.getElem?_eq_getElem h1]
  simp at h3
  rw [← h3]
theorem slot_bool (hs : SatH B hp s a w) {d : Nat} {t : Bool} (ht : nthA s.fr d = .c (.bool t)) {t' : Bool} (e : t = t') : (AV.c (.bool t')).rel (faces hp) (a.tmps.getD d undef) := by
  have h2 := hs.fr d
  rw [ht, e] at h2
  exact h2

/-- one operation with its guard -/
theorem alist_cons (ht : TabOk P tb) (he : EqOk P tb) {lim : Option Nat} {all l : List Oper} {obs : List Prop} {K : St → List Prop → Prop} (hK : ∀ s obs, K s obs → All obs) (h : alist std (mkX P B fin) tb lim all (o :: l) s obs K) (hs : SatH B hp s a w)
    {next : Act → World → Prop} {Q : Exit → Act → World → Prop}
    (hn : ∀ s' obs' a' w' hp', alist std (mkX P B fin) tb lim all l s' obs' K → SatH B hp' s' a' w' → ((wrOp o.op = false ∨ ((∃ c, o.op = .call c) ∧ (∀ s, stepR std tb lim s o = none) ∧ isSome' lim = true)) → Below w.heap.size w w' ∧ News w hp hp') → next a' w') :
    if Region.wanted o (yielded all.toArray a.tmps) = true then o.wp P a w next Q else next (a.put o.dst undef) w := by
  have hA := fun s obs (h : alist std (mkX P B fin) tb lim all l s obs K) => alist_all hK h
  have hput : ∀ {s1 : St} (_ : SatH B hp s1 a w), SatH B hp (St.put s1 o.dst undefA) (a.put o.dst undef) w := fun {s1} h1 => put_ok h1 h1.ck (FsLe.refl _) h1.ok (undef_ok _)
  have hdo : ∀ {s1 : St} {obs1} (_ : SatH B hp s1 a w), doOp std (mkX P B fin) tb lim o s1 obs1 (fun s' obs' => alist std (mkX P B fin) tb lim all l s' obs' K) → o.wp P a w next Q := fun {s1 obs1} h1 h2 =>
    doOp_ok ht he hA h2 h1 (fun s' obs' a' w' hp' g1 g2 g3 => hn s' obs' a' w' hp' g1 g2 (fun g4 => g3 (g4.imp id (fun ⟨x, y, z⟩ => ⟨x, y _, z⟩))))
  unfold alist at h
  split at h
  · rename_i hg
    have : Region.wanted o (yielded all.toArray a.tmps) = true := by simp [Region.wanted, hg]
    rw [if_pos this]
    exact hdo hs h
  · rename_i j want hg
    split at h
    · exact h.elim
    · rename_i d hd
      split at h
      · rename_i t hdt
        have hy := guard_ok hs hd hdt
        have hwant : Region.wanted o (yielded all.toArray a.tmps) = (t == want) := by
          simp only [Region.wanted, hg, hy]
          cases t <;> cases want <;> rfl
        have hk := fun t' (e : t = t') => know_ok hs (slot_bool hs hdt e)
        split at h
        · rcases cnd_or h with ⟨e, h⟩ | ⟨e, h⟩
          · rw [if_pos (by rw [hwant, e]; rfl)]; exact hdo (hk _ e) h
          · rw [if_neg (by rw [hwant, e]; decide)]
            exact hn _ _ _ _ hp h (hput (hk _ e)) (fun _ => ⟨Below.refl _ _, News.nil _ _⟩)
        · rcases cnd_or h with ⟨e, h⟩ | ⟨e, h⟩
          · rw [if_neg (by rw [hwant, e]; decide)]
            exact hn _ _ _ _ hp h (hput (hk _ e)) (fun _ => ⟨Below.refl _ _, News.nil _ _⟩)
          · rw [if_pos (by rw [hwant, e]; rfl)]; exact hdo (hk _ e) h
      · rename_i vs hdt
        rw [if_neg (by simp [Region.wanted, hg, guard_none hs hd hdt])]
        exact hn _ _ _ _ hp h (hput hs) (fun _ => ⟨Below.refl _ _, News.nil _ _⟩)
      · exact h.elim

theorem alist_ok (ht : TabOk P tb) (he : EqOk P tb) {lim : Option Nat} {all : List Oper} {K : St → List Prop → Prop} (hK : ∀ s obs, K s obs → All obs) {Q : Exit → Act → World → Prop} (hQ : ∀ s obs a w, K s obs → Sat B s a w → Q .normal a w) :
    ∀ {l : List Oper} {s : St} {obs : List Prop} {a : Act} {w : World}, alist std (mkX P B fin) tb lim all l s obs K → Sat B s a w → wpList P all.toArray Q l a w := by
  intro l
  induction l with
  | nil => intro s obs a w h hs; exact hQ _ _ _ _ h hs
  | cons o l ih =>
    intro s obs a w h hs
    obtain ⟨hp, hs⟩ := hs
    have := alist_cons (Q := Q) (next := wpList P all.toArray Q l) ht he hK h hs (fun s' obs' a' w' hp' h1 h2 _ => ih h1 ⟨hp', h2⟩)
    unfold wpList
    split
    · rename_i hw; rw [if_pos hw] at this; exact .inl this
    · rename_i hw; rw [if_neg hw] at this; exact this

/-! a region that draws its order -/
theorem doOp_quiet (ht : TabOk P tb) (he : EqOk P tb) {n : Nat} {obs : List Prop} {K : St → List Prop → Prop} (hK : ∀ s obs, K s obs → All obs) (h : doOp std (mkX P B fin) tb (some n) o s obs K) (hs : SatH B hp s a w) (hst : stillB o = true)
    {C : World → Prop} (hC : ∀ z, C z → ∀ T x, o.op = .load T x → ∀ (i : Nat) c, i < n → hp[i]? = some c → ChOk B.w z (faces hp) c) {next : Act → Prop}
    (hn : ∀ s' obs' a' hp', K s' obs' → SatH B hp' s' a' w → (News w hp hp') → next a') : o.quiet P a C next := by
  have fin1 : ∀ (u : Value), (∀ z, C z → (execOp a.eval o).run P z = .ok (.value u) z) → next (a.put o.dst u) → o.quiet P a C next := fun u h1 h2 =>
    ⟨u, fun z hz => by unfold Oper.quietAt; rw [h1 z hz]; exact ⟨rfl, rfl⟩, h2⟩
  unfold doOp at h
  split at h
  · rename_i c x y hop
    split at h
    · rename_i t hc
      have e1 := bool_val (ev_c hs.fr hc)
      have key : ∀ z, (∀ w, (execOp a.eval o).run P w = .ok (.value (a.eval z)) w) → K (s.put o.dst (ev s.fr z)) obs → o.quiet P a C next := by
        intro z hz hk
        refine fin1 (a.eval z) (fun w' _ => hz w') (hn _ _ _ hp hk ?_ (News.nil _ _))
        exact put_ok hs hs.ck (FsLe.refl _) hs.ok (d := o.dst) (ev_ok hs.fr z)
      rcases cnd_or h with ⟨rfl, h⟩ | ⟨rfl, h⟩
      · exact key x (fun w => by simp [execOp, hop, e1, asBool]) h
      · exact key y (fun w => by simp [execOp, hop, e1, asBool]) h
    · exact h.elim
  · split at h
    · rename_i op hop v ck ob hstep
      have ho := (appP_all.1 (hK _ _ h)).2
      unfold stepR at hstep
      have hck := hs.ck
      split at hstep
      · rename_i r hr
        injection hstep with hstep
        subst hstep
        have hr' := hr
        rw [← hck] at hr'
        obtain ⟨m, u, w', hp', hrun, hmu, ⟨h1, h2⟩, h3, h4, h5⟩ := eop_ok ht hs.fr hs.ok hr' ho
        unfold eop at hr
        split at hr
        · rename_i hop'; simp [stillB, hop'] at hst
        · rename_i hop'; simp [stillB, hop'] at hst
        · rename_i hop'; simp [stillB, hop'] at hst
        · rename_i hop'; simp [stillB, hop'] at hst
        · rename_i v' hop'
          have hz : ∀ z, (execOp a.eval o).run P z = .ok (.value v') z := fun z => by simp [execOp, hop', Act.eval]
          have hw := hz w
          rw [hrun] at hw
          injection hw with e1 e2
          subst e2
          have e3 : u = v' := by
            rcases hmu with e | ⟨e, _⟩
            · rw [e] at e1; injection e1
            · rw [e] at e1; cases e1
          subst e3
          refine fin1 u (fun z _ => hz z) (hn _ _ _ hp' h (put_ok hs h1 h3 h4 (d := o.dst) h5) (h2 (by rw [hop']; rfl)).2)
        · rename_i hop'; simp [stillB, hop'] at hst
        · rename_i T x lo hi hop'
          rw [← hck] at hr
          obtain ⟨_, v', hz⟩ := slc_ok ht hs.fr hs.ok hop' hr ho
          have hw := hz w
          rw [hrun] at hw
          injection hw with e1 e2
          subst e2
          have e3 : u = v' := by
            rcases hmu with e | ⟨e, _⟩
            · rw [e] at e1; injection e1
            · rw [e] at e1; cases e1
          subst e3
          refine fin1 u (fun z _ => hz z) (hn _ _ _ hp' h (put_ok hs h1 h3 h4 (d := o.dst) h5) (h2 (by rw [hop']; rfl)).2)
        · rename_i T x lo hi m hop'
          rw [← hck] at hr
          obtain ⟨_, v', hz⟩ := slc3_ok ht hs.fr hs.ok hop' hr ho
          have hw := hz w
          rw [hrun] at hw
          injection hw with e1 e2
          subst e2
          have e3 : u = v' := by
            rcases hmu with e | ⟨e, _⟩
            · rw [e] at e1; injection e1
            · rw [e] at e1; cases e1
          subst e3
          refine fin1 u (fun z _ => hz z) (hn _ _ _ hp' h (put_ok hs h1 h3 h4 (d := o.dst) h5) (h2 (by rw [hop']; rfl)).2)
        · rename_i hop'; simp [stillB, hop'] at hst
        · cases hr
      · cases hl : limOk (some n) s.fr o.op <;> rw [hl] at hstep
        · cases hstep
        · simp only [cond_true] at hstep
          split at hstep
          · rename_i v' ob' hpp
            simp only [Option.some.injEq, Prod.mk.injEq] at hstep
            obtain ⟨rfl, rfl, rfl⟩ := hstep
            have hpp' := hpp
            rw [← hck] at hpp'
            have hnj := pop_nj hpp
            obtain ⟨u, hu, hv⟩ := pop_ok (w := w) ht he hs.fr hs.ok (fun T x i _ _ c hc => hs.ok.ok i c hc) hpp' ho
            refine fin1 u (fun z hz => ?_) (hn _ _ _ hp h (put_ok hs hck (FsLe.refl _) hs.ok (d := o.dst) hv) (News.nil _ _))
            obtain ⟨u', hu', hv'⟩ := pop_ok (w := z) ht he hs.fr hs.ok (fun T x i hl' hi c hc => by
              refine hC z hz T x hl' i c ?_ hc
              rw [hl'] at hl
              simp only [limOk, hi] at hl
              exact Nat.le_of_ble_eq_true hl) hpp' ho
            have e1 := hv.resolve_left hnj
            have e2 := hv'.resolve_left hnj
            rw [e1] at e2
            injection e2 with e2
            rw [e2]; exact hu'
          · cases hstep
    · split at h
      · rename_i c hopc
        split at h
        · rename_i f cap hcal
          unfold callee at hcal
          split at hcal
          · rename_i x hcx
            exfalso
            obtain ⟨callee, args, ts⟩ := c
            simp only at hcx
            subst hcx
            simp [stillB, hopc] at hst
          · cases hcal
        · exact h.elim
      · exact h.elim
      · exact h.elim
      · exact h.elim

theorem alist_quiet (ht : TabOk P tb) (he : EqOk P tb) {n : Nat} {all l : List Oper} {obs : List Prop} {K : St → List Prop → Prop} (hK : ∀ s obs, K s obs → All obs) (h : alist std (mkX P B fin) tb (some n) all (o :: l) s obs K) (hs : SatH B hp s a w) (hst : stillB o = true)
    {C : World → Prop} (hC : ∀ z, C z → ∀ T x, o.op = .load T x → ∀ (i : Nat) c, i < n → hp[i]? = some c → ChOk B.w z (faces hp) c) {next : Act → Prop}
    (hn : ∀ s' obs' a' hp', alist std (mkX P B fin) tb (some n) all l s' obs' K → SatH B hp' s' a' w → (News w hp hp') → next a') :
    if Region.wanted o (yielded all.toArray a.tmps) = true then o.quiet P a C next else next (a.put o.dst undef) := by
  have hA := fun s obs (h : alist std (mkX P B fin) tb (some n) all l s obs K) => alist_all hK h
  have hput : ∀ {s1 : St} (_ : SatH B hp s1 a w), SatH B hp (St.put s1 o.dst undefA) (a.put o.dst undef) w := fun {s1} h1 => put_ok h1 h1.ck (FsLe.refl _) h1.ok (undef_ok _)
  have hdo : ∀ {s1 : St} {obs1} (_ : SatH B hp s1 a w), doOp std (mkX P B fin) tb (some n) o s1 obs1 (fun s' obs' => alist std (mkX P B fin) tb (some n) all l s' obs' K) → o.quiet P a C next := fun {s1 obs1} h1 h2 =>
    doOp_quiet ht he hA h2 h1 hst hC (fun s' obs' a' hp' g1 g2 g3 => hn s' obs' a' hp' g1 g2 g3)
  unfold alist at h
  split at h
  · rename_i hg
    have : Region.wanted o (yielded all.toArray a.tmps) = true := by simp [Region.wanted, hg]
    rw [if_pos this]
    exact hdo hs h
  · rename_i j want hg
    split at h
    · exact h.elim
    · rename_i d hd
      split at h
      · rename_i t hdt
        have hy := guard_ok hs hd hdt
        have hwant : Region.wanted o (yielded all.toArray a.tmps) = (t == want) := by
          simp only [Region.wanted, hg, hy]
          cases t <;> cases want <;> rfl
        have hk := fun t' (e : t = t') => know_ok hs (slot_bool hs hdt e)
        split at h
        · rcases cnd_or h with ⟨e, h⟩ | ⟨e, h⟩
          · rw [if_pos (by rw [hwant, e]; rfl)]; exact hdo (hk _ e) h
          · rw [if_neg (by rw [hwant, e]; decide)]
            exact hn _ _ _ hp h (hput (hk _ e)) (News.nil _ _)
        · rcases cnd_or h with ⟨e, h⟩ | ⟨e, h⟩
          · rw [if_neg (by rw [hwant, e]; decide)]
            exact hn _ _ _ hp h (hput (hk _ e)) (News.nil _ _)
          · rw [if_pos (by rw [hwant, e]; rfl)]; exact hdo (hk _ e) h
      · rename_i vs hdt
        rw [if_neg (by simp [Region.wanted, hg, guard_none hs hd hdt])]
        exact hn _ _ _ hp h (hput hs) (News.nil _ _)
      · exact h.elim

def notLoad (o : Oper) : Bool := match o.op with
  | .load .. => false
  | _ => true
def oneB (o : Oper) : Bool := match o.op with
  | .alloc _ => true
  | .box .. => true
  | .buildSlice .. => true
  | .call ⟨.value _, _, _⟩ => true
  | _ => false
def segD (l : List Oper) : Dr → Bool
  | .fin => true
  | .seg 0 is r => (is.all fun i => stillB (l.getD i default) && notLoad (l.getD i default)) && segD l r
  | .seg 1 is r => (is.all fun i => stillB (l.getD i default)) && segD l r
  | .seg 3 _ r => segD l r
  | .seg _ is r => (is.all fun i => oneB (l.getD i default)) && segD l r
  | .alt i x y => oneB (l.getD i default) && (segD l x && segD l y)
  | .no => true
  | .one i r => segT l (.one i r)
  | .tl is r => segT l (.tl is r)
  | .done => true
where
  segT (l : List Oper) : Dr → Bool
    | .one _ r => segT l r
    | .tl is r => (is.all fun i => stillB (l.getD i default) && notLoad (l.getD i default)) && segT l r
    | .done => true
    | _ => false
def segX (l : List Oper) : Dr → Bool
  | .seg 0 is r => (is.all fun i => stillB (l.getD i default) && notLoad (l.getD i default)) && segX l r
  | .seg 1 is r => (is.all fun i => stillB (l.getD i default)) && segX l r
  | .seg 4 _ r => segX l r
  | .fin => true
  | _ => false
/-- each order, one after the other: a tree of them -/
def ordW (ops : Array Oper) : Dr → Bool → Array Bool → Nat → Bool
  | .fin, _, listed, n => decide (n = 0) && (Region.ready .any ops listed).isEmpty
  | .alt i x y, h, listed, n => (!h || (!(Region.ready .any ops listed).isEmpty && (Region.ready .any ops listed).all fun j => (i :: y.heads).contains j)) && (decide (i < ops.size) && (decide (1 ≤ n) && (ordW ops x true (listed.setIfInBounds i true) (n - 1) && ordW ops y false listed n)))
  | .no, h, _, _ => !h
  | _, _, _, _ => false
def regB (l : List Oper) (d : Dr) (lt : List Nat) : Bool := match isO d with
  | some d' => ordW l.toArray d' true (Array.replicate l.toArray.size false) l.toArray.size
  | none => pdB .any l.toArray d lt && (match isX d with | true => segX l d | false => segD l d)
theorem stN_imp {n : Nat} {fr : List AV} {hp : List Ck} {o : Oper} {p : Prop} (h : stN n fr hp o p) : ((∃ T x y j, o.op = .store T x y ∧ ldIdx (ev fr x) = some j ∧ n ≤ j) ∨
    ∃ xs ts x y i T e l, o.op = .call ⟨.builtin .append, xs, ts⟩ ∧ xs.toList = [x, y] ∧ ev fr x = .c (.sl i) ∧ nthCk hp i = .own T e l ∧ n ≤ i) ∧ o.guard = none ∧ p := by
  unfold stN at h
  split at h
  · rename_i T x y h1 h2
    split at h
    · rename_i j hj
      cases hb : Nat.ble n j with
      | true => rw [hb] at h; exact ⟨.inl ⟨T, x, y, j, h1, hj, Nat.le_of_ble_eq_true hb⟩, h2, h⟩
      | false => rw [hb] at h; exact h.elim
    · exact h.elim
  · rename_i xs ts h1 h2
    split at h
    · rename_i x y hx
      split at h
      · rename_i i hi
        split at h
        · rename_i T e l hc
          cases hb : Nat.ble n i with
          | true => rw [hb] at h; exact ⟨.inr ⟨xs, ts, x, y, i, T, e, l, h1, hx, hi, hc, Nat.le_of_ble_eq_true hb⟩, h2, h⟩
          | false => rw [hb] at h; exact h.elim
        · exact h.elim
      · exact h.elim
    · exact h.elim
  · exact h.elim
theorem Ch.same {c d : Ch} (h1 : c.ck = d.ck) (h2 : c.face = d.face) : c = d := by
  cases c <;> cases d <;> simp_all [Ch.ck, Ch.face]
theorem HOk.pre {B W w : World} {hp0 news : List Ch} (h0 : HOk B hp0 W) (h : HOk B (hp0 ++ news) w) : HOk B hp0 w := by
  have hf : FsLe (faces hp0) (faces (hp0 ++ news)) := by simp only [faces, List.map_append]; exact FsLe.app _ _
  have key : ∀ i c, hp0[i]? = some c → (hp0 ++ news)[i]? = some c := fun i c hc => by
    rw [List.getElem?_append_left (List.getElem?_eq_some_iff.1 hc).1]; exact hc
  refine ⟨h.bel, fun i c hc => ?_, fun i j c d hij hc hd => h.sep i j c d hij (key i c hc) (key j d hd)⟩
  have h1 := h.ok i c (key i c hc)
  have h2 := h0.ok i c hc
  cases c with
  | blk g T cs =>
    obtain ⟨vs, a1, a2, a3⟩ := h1
    obtain ⟨us, b1, _⟩ := h2
    have := vals_mono hf b1
    rw [a1] at this
    injection this with this
    subst this
    exact ⟨_, b1, a2, a3⟩
  | ro g T cs =>
    obtain ⟨vs, a1, a2⟩ := h1
    obtain ⟨us, b1, _⟩ := h2
    have := vals_mono hf b1
    rw [a1] at this
    injection this with this
    subst this
    exact ⟨_, b1, a2⟩
  | _ => exact h1
/-- what lay ahead lies there, by the names alone -/
theorem pre_same {hp0 hp hp' : List Ch} {ck : List Ck} (hpre : ∃ news, hp = hp0 ++ news) (hck : hp'.map Ch.ck = ck) (hfs : FsLe (faces hp) (faces hp')) (h : ∀ j, j < hp0.length → ck[j]? = (hp.map Ch.ck)[j]?) : ∃ news, hp' = hp0 ++ news := by
  obtain ⟨news, rfl⟩ := hpre
  refine ⟨hp'.drop hp0.length, ?_⟩
  refine List.ext_getElem? fun j => ?_
  rcases Nat.lt_or_ge j hp0.length with hj | hj
  · rw [List.getElem?_append_left hj, List.getElem?_eq_getElem hj]
    have h1 := h j hj
    rw [← hck, List.getElem?_map, List.getElem?_map, List.getElem?_append_left hj, List.getElem?_eq_getElem hj] at h1
    have h2 := hfs j hp0[j].face (by simp only [faces, List.getElem?_map, List.getElem?_append_left hj, List.getElem?_eq_getElem hj]; rfl)
    simp only [faces, List.getElem?_map] at h2
    cases hc : hp'[j]? with
    | none => rw [hc] at h1; cases h1
    | some c =>
      rw [hc] at h1 h2
      simp only [Option.map_some, Option.some.injEq] at h1 h2
      rw [Ch.same h1 h2]
  · rw [List.getElem?_append_right hj, List.getElem?_drop]
    congr 1; omega
theorem appS_pre {hp : List Ck} {T : TypeId} {i : Nat} {y : AV} {v : AV} {ck : List Ck} {obs : List Prop} (h : appendS std tb hp T (.c (.sl i)) y = some (v, ck, obs)) : ∀ j, j < i → j < hp.length → ck[j]? = hp[j]? := by
  have k1 : ∀ (x : Ck) j, j < i → j < hp.length → (setK hp i .gone ++ [x])[j]? = hp[j]? := fun x j hji hj => by
    rw [setK_eq, List.getElem?_append_left (by rw [List.length_set]; exact hj), List.getElem?_set, if_neg (by omega)]
  have k2 : ∀ (x : Ck) j, j < i → j < hp.length → (hp ++ [x])[j]? = hp[j]? := fun x j _ hj => by rw [List.getElem?_append_left hj]
  have a1 : ∀ {T' e} {l l2 : List (El.T e)} {e' E}, appendS.app1 std hp i T' e l l2 e' E = some (v, ck, obs) → ∀ j, j < i → j < hp.length → ck[j]? = hp[j]? := fun {T' e l l2 e' E} h => by
    unfold appendS.app1 at h
    cases hb : (Nat.beq T' E && Nat.beq e.sz e'.sz) with
    | false => rw [hb] at h; cases h
    | true =>
      rw [hb] at h
      simp only [cond_true, Option.some.injEq, Prod.mk.injEq] at h
      rw [← h.2.1]
      exact k1 _
  have a2 : ∀ {e} {l l2 : List (El.T e)} {e' E}, appendS.app2 std hp e l l2 e' E = some (v, ck, obs) → ∀ j, j < i → j < hp.length → ck[j]? = hp[j]? := fun {e l l2 e' E} h => by
    unfold appendS.app2 at h
    cases hb : (Nat.beq e.sz e'.sz) with
    | false => rw [hb] at h; cases h
    | true =>
      rw [hb] at h
      simp only [cond_true, Option.some.injEq, Prod.mk.injEq] at h
      rw [← h.2.1]
      exact k2 _
  unfold appendS at h
  split at h
  · rename_i i' j' he
    injection he with he
    injection he with he
    subst he
    split at h
    · rename_i E te hE
      split at h
      · rename_i e' T' e l e2 l2 he hci hcj
        cases hb : (Nat.beq i j' || !Nat.ble te.bytes 64) with
        | true => rw [hb] at h; simp at h
        | false =>
          rw [hb] at h
          simp only [cond_false] at h
          split at h
          all_goals first
            | exact a1 h
            | cases h
      · rename_i e' e l e2 l2 he hci hcj
        cases hb : (!Nat.ble te.bytes 64) with
        | true => rw [hb] at h; simp at h
        | false =>
          rw [hb] at h
          simp only [cond_false] at h
          split at h
          all_goals first
            | exact a2 h
            | cases h
      · cases h
    · cases h
  · cases h
theorem alistD_all {O : Ops} {X : Cx} {lim : Option Nat} {all : List Oper} {lt : List Nat} {K : St → List Prop → Prop} (hK : ∀ s obs, K s obs → All obs) : ∀ {d : Dr} {s : St} {obs : List Prop}, alistD O X tb lim all lt d s obs K → All obs := by
  intro d
  induction d with
  | fin => intro s obs h; exact alist_all hK h
  | seg k is r ih =>
    intro s obs h
    match k, h with
    | 0, h => exact alist_all (fun _ _ h => ih h) h
    | 1, h => exact alist_all (fun _ _ h => ih h) h
    | 2, h => exact alist_all (fun _ _ h => ih h) h
    | 3, h =>
      match lim, is, h with
      | some n, [i], h => exact alist_all (fun _ _ h => ih h) (stN_imp h).2.2
      | some _, [], h => exact h.elim
      | some _, _ :: _ :: _, h => exact h.elim
      | none, _, h => exact h.elim
    | k + 4, h => exact alist_all (fun _ _ h => ih h) h
  | alt i x y ihx _ => intro s obs h; exact alist_all (fun _ _ h => ihx h) h.1
  | no => intro s obs h; exact h.elim
  | one i r ih => intro s obs h; exact alist_all (fun _ _ h => ih h) h
  | tl is r ih => intro s obs h; exact alist_all (fun _ _ h => ih h) h
  | done => intro s obs h; exact hK _ _ h

theorem stepR_callv {c : Call} {x : Operand} (hc : o.op = .call c) (hx : c.callee = .value x) (lim : Option Nat) (s : St) : stepR std tb lim s o = none := by
  obtain ⟨callee, args, ts⟩ := c
  simp only at hx
  subst hx
  unfold stepR
  rw [hc]
  simp [eop, pop, limOk]

theorem reads_ok (ht : TabOk P tb) (he : EqOk P tb) {n : Nat} {all : List Oper} {K : St → List Prop → Prop} (hK : ∀ s obs, K s obs → All obs) {hp0 : List Ch} {W : World} {C : World → Prop} (hn0 : n = hp0.length) {ld : Bool}
    (hC : ∀ z, C z → ld = true → HOk B.w hp0 z) {next : Act → Prop} (hsz : W.heap.size ≤ w.heap.size) : ∀ {l : List Oper} {s : St} {obs : List Prop} {a : Act} {hp : List Ch}, (∀ o ∈ l, stillB o = true ∧ (ld = true ∨ notLoad o = true)) →
    alist std (mkX P B fin) tb (some n) all l s obs K → SatH B hp s a w → News W hp0 hp →
    (∀ s' obs' a' hp', K s' obs' → SatH B hp' s' a' w → News W hp0 hp' → next a') → wpQuiet P all.toArray C next l a := by
  intro l
  induction l with
  | nil => intro s obs a hp _ h hs hnews hn; exact hn _ _ _ _ h hs hnews
  | cons o l ih =>
    intro s obs a hp hl h hs hnews hn
    obtain ⟨h1, h2⟩ := hl o List.mem_cons_self
    have hnews0 := hnews
    obtain ⟨news, rfl, _⟩ := hnews
    have := alist_quiet (next := wpQuiet P all.toArray C next l) (C := C) ht he hK h hs h1 (fun z hz T x hop i c hi hc => by
      have hld : ld = true := h2.resolve_right (by simp [notLoad, hop])
      have hz' := hC z hz hld
      rw [List.getElem?_append_left (by omega)] at hc
      refine (hz'.ok i c hc).mono ?_
      simp only [faces, List.map_append]; exact FsLe.app _ _) (fun s' obs' a' hp' g1 g2 g3 => ih (fun o ho => hl o (List.mem_cons_of_mem _ ho)) g1 g2 (hnews0.trans hsz g3) hn)
    exact this

theorem reads_pure (ht : TabOk P tb) (he : EqOk P tb) {n : Nat} {all : List Oper} {K : St → List Prop → Prop} (hK : ∀ s obs, K s obs → All obs) {next : Act → Prop} : ∀ {l : List Oper} {s : St} {obs : List Prop} {a : Act}, (∀ o ∈ l, stillB o = true ∧ notLoad o = true) →
    alist std (mkX P B fin) tb (some n) all l s obs K → Sat B s a w → (∀ s' obs' a', K s' obs' → Sat B s' a' w → next a') → wpQuiet P all.toArray (fun _ => True) next l a := by
  intro l
  induction l with
  | nil => intro s obs a _ h hs hn; exact hn _ _ _ h hs
  | cons o l ih =>
    intro s obs a hl h hs hn
    obtain ⟨hp, hs⟩ := hs
    obtain ⟨h1, h2⟩ := hl o List.mem_cons_self
    exact alist_quiet (next := wpQuiet P all.toArray (fun _ => True) next l) (C := fun _ => True) ht he hK h hs h1 (fun z _ T x hop => by simp [notLoad, hop] at h2) (fun s' obs' a' hp' g1 g2 _ => ih (fun o ho => hl o (List.mem_cons_of_mem _ ho)) g1 ⟨hp', g2⟩ hn)
theorem dr_tail (ht : TabOk P tb) (he : EqOk P tb) {n : Nat} {l : List Oper} {K : St → List Prop → Prop} (hK : ∀ s obs, K s obs → All obs) {S : World → Prop}
    {Q : Exit → Act → World → Prop} (hQ : ∀ s obs a w, K s obs → Sat B s a w → Q .normal a w) {lt : List Nat} : ∀ {d : Dr} {s : St} {obs : List Prop} {a : Act} {w : World}, segD.segT l d = true →
    alistD std (mkX P B fin) tb (some n) l lt d s obs K → Sat B s a w → wpDr P l Q S lt d a w := by
  intro d
  induction d with
  | fin => intro s obs a w h; cases h
  | no => intro s obs a w h; cases h
  | seg k is r _ => intro s obs a w h; cases h
  | alt i x y _ _ => intro s obs a w h; cases h
  | done => intro s obs a w _ h hs; exact hQ _ _ _ _ h hs
  | tl is r ih =>
    intro s obs a w hseg h hs
    simp only [segD.segT, Bool.and_eq_true, List.all_eq_true] at hseg
    refine reads_pure ht he (fun _ _ h => alistD_all hK h) (fun o ho => ?_) h hs (fun s' obs' a' g1 g2 => ih hseg.2 g1 g2)
    obtain ⟨i, hi, rfl⟩ := List.mem_map.1 ho
    exact hseg.1 i hi
  | one i r ih =>
    intro s obs a w hseg h hs
    exact alist_ok (Q := Exit.then (fun a' w' => wpDr P l Q S lt r a' w') Q) ht he (fun _ _ h => alistD_all hK h) (fun s' obs' a' w' g1 g2 => ih hseg g1 g2) h hs
theorem dr_ok (ht : TabOk P tb) (he : EqOk P tb) {n : Nat} {l : List Oper} {K : St → List Prop → Prop} (hK : ∀ s obs, K s obs → All obs) {hp0 : List Ch} {W W0 : World} (hz0 : W0.heap.size = 0) (h0 : HOk B.w hp0 W) (hn0 : n = hp0.length)
    {Q : Exit → Act → World → Prop} (hQ : ∀ s obs a w, K s obs → Sat B s a w → Q .normal a w) {lt : List Nat} : ∀ {d : Dr} {s : St} {obs : List Prop} {a : Act} {w : World} {hp : List Ch}, segD l d = true →
    alistD std (mkX P B fin) tb (some n) l lt d s obs K → SatH B hp s a w → News W0 hp0 hp →
    wpDr P l Q (fun z => HOk B.w hp0 z) lt d a w := by
  have pre : ∀ {hp : List Ch} {s : St} {a : Act} {w : World}, SatH B hp s a w → News W0 hp0 hp → HOk B.w hp0 w := fun hs hnews => by
    obtain ⟨news, rfl, _⟩ := hnews
    exact h0.pre hs.ok
  have mk : ∀ {hp : List Ch}, (∃ news, hp = hp0 ++ news) → News W0 hp0 hp := fun h => by
    obtain ⟨news, rfl⟩ := h
    exact ⟨news, rfl, fun _ _ _ _ _ => by rw [hz0]; exact Nat.zero_le _⟩
  have ones : ∀ (K' : St → List Prop → Prop) (hK' : ∀ s obs, K' s obs → All obs) (G : Act → World → Prop), (∀ s obs a w hp, K' s obs → SatH B hp s a w → News W0 hp0 hp → G a w) →
      ∀ (js : List Nat) (s : St) (obs : List Prop) (a : Act) (w : World) (hp : List Ch), (∀ i ∈ js, oneB (l.getD i default) = true) → alist std (mkX P B fin) tb (some n) l (pick l js) s obs K' → SatH B hp s a w → News W0 hp0 hp →
      wpList P l.toArray (Exit.then (fun a' w' => HOk B.w hp0 w' ∧ G a' w') Q) (pick l js) a w := by
    intro K' hK' G hG js
    induction js with
    | nil =>
      intro s obs a w hp _ h hs hnews
      exact ⟨pre hs hnews, hG s obs a w hp h hs hnews⟩
    | cons j js ihj =>
      intro s obs a w hp hj h hs hnews
      have h1 := hj j List.mem_cons_self
      have := alist_cons (Q := Exit.then (fun a' w' => HOk B.w hp0 w' ∧ G a' w') Q)
        (next := wpList P l.toArray (Exit.then (fun a' w' => HOk B.w hp0 w' ∧ G a' w') Q) (pick l js)) (l := pick l js) ht he hK' h hs (fun s' obs' a' w' hp' g1 g2 g3 => by
          have hone : wrOp (l.getD j default).op = false ∨ ((∃ c, (l.getD j default).op = .call c) ∧ (∀ s, stepR std tb (some n) s (l.getD j default) = none) ∧ isSome' (some n) = true) := by
            unfold oneB at h1
            split at h1
            · rename_i hop; exact .inl (by rw [hop]; rfl)
            · rename_i hop; exact .inl (by rw [hop]; rfl)
            · rename_i hop; exact .inl (by rw [hop]; rfl)
            · rename_i hop; exact .inr ⟨⟨_, hop⟩, fun s => stepR_callv hop rfl _ _, rfl⟩
            · cases h1
          obtain ⟨g4, g5⟩ := g3 hone
          exact ihj s' obs' a' w' hp' (fun i hi => hj i (List.mem_cons_of_mem _ hi)) g1 g2 (hnews.trans (by rw [hz0]; exact Nat.zero_le _) g5))
      simp only [pick, List.map_cons]
      unfold wpList
      split
      · rename_i hw; rw [if_pos hw] at this; exact .inl this
      · rename_i hw; rw [if_neg hw] at this; exact this
  have stores : ∀ (K' : St → List Prop → Prop) (hK' : ∀ s obs, K' s obs → All obs) (G : Act → World → Prop), (∀ s obs a w hp, K' s obs → SatH B hp s a w → News W0 hp0 hp → G a w) →
      ∀ (j : Nat) (s : St) (obs : List Prop) (a : Act) (w : World) (hp : List Ch), stN n s.fr s.hp (l.getD j default) (alist std (mkX P B fin) tb (some n) l (pick l [j]) s obs K') → SatH B hp s a w → News W0 hp0 hp →
      wpList P l.toArray (Exit.then (fun a' w' => HOk B.w hp0 w' ∧ G a' w') Q) (pick l [j]) a w := by
    intro K' hK' G hG j s obs a w hp h hs hnews
    obtain ⟨hcase, hgd, h⟩ := stN_imp h
    obtain ⟨o, ho⟩ : ∃ o, l.getD j default = o := ⟨_, rfl⟩
    have hpk : pick l [j] = [o] := by simp only [pick, List.map_cons, List.map_nil, ho]
    rw [hpk] at h ⊢
    rw [ho] at hcase hgd
    have hpre : ∃ news, hp = hp0 ++ news := by obtain ⟨news, e, _⟩ := hnews; exact ⟨news, e⟩
    have hlen : s.hp.length = hp.length := by rw [← hs.ck, List.length_map]
    have hw : Region.wanted o (yielded l.toArray a.tmps) = true := by simp [Region.wanted, hgd]
    have fin' : ∀ {v : AV} {ck : List Ck} {ob : List Prop}, K' (St.put ⟨s.fr, ck⟩ o.dst v) (appP obs ob) → (All ob → Does P B.w hp a w o v ck) → (∀ j, j < hp0.length → ck[j]? = s.hp[j]?) → wpList P l.toArray (Exit.then (fun a' w' => HOk B.w hp0 w' ∧ G a' w') Q) [o] a w := fun {v ck ob} hk hd hpr => by
      obtain ⟨nn, u, w', hp', hrun, hnu, ⟨hck, _⟩, hfs, hok, hrel⟩ := hd ((appP_all.1 (hK' _ _ hk)).2)
      have hp2 := pre_same hpre hck hfs (fun j hj => by rw [hs.ck]; exact hpr j hj)
      have hs' := put_ok hs hck hfs hok (d := o.dst) (v := v) (u := u) hrel
      unfold wpList
      rw [if_pos hw]
      refine .inl ?_
      unfold Oper.wp
      rw [hrun]
      rcases hnu with rfl | ⟨rfl, rfl⟩
      · exact ⟨pre hs' (mk hp2), hG _ _ _ _ _ hk hs' (mk hp2)⟩
      · exact ⟨pre hs' (mk hp2), hG _ _ _ _ _ hk hs' (mk hp2)⟩
    unfold alist at h
    rw [hgd] at h
    simp only at h
    unfold doOp at h
    rcases hcase with ⟨T, x, y, i, hop, hli, hni⟩ | ⟨xs, ts, x, y, i, T, e, ll, hop, hxs, hx, hci, hni⟩
    · rw [hop] at h
      simp only at h
      unfold stepR at h
      have hpop : pop std tb s.fr s.hp o.op = none := by rw [hop]; rfl
      cases hst : eop std tb s.fr s.hp o.type o.op with
      | none =>
        rw [hst, hpop] at h
        cases hl : limOk (some n) s.fr o.op <;> rw [hl] at h <;> exact h.elim
      | some r =>
        rw [hst] at h
        obtain ⟨v, ck, ob⟩ := r
        simp only at h
        refine fin' h (fun hob => eop_ok ht hs.fr hs.ok (by rw [hs.ck]; exact hst) hob) (fun j hj => ?_)
        have hob := (appP_all.1 (hK' _ _ h)).2
        unfold eop at hst
        rw [hop] at hst
        simp only at hst
        split at hst
        · rename_i lv hlv
          rw [← hs.ck] at hst
          obtain ⟨w', i', c, c', h1, h2, h3, h4, h5, h6, h7, h8, h9, g1, g2, g3, g4, g5⟩ := stoA_ok' ht hs.fr hs.ok hop hlv hst hob
          have hii : i' = i := by rw [h6] at hli; injection hli
          subst hii
          rw [← h3, ← hs.ck, List.map_set, List.getElem?_set, if_neg (by omega)]
        · cases hst
    · rw [hop] at h
      simp only at h
      unfold stepR at h
      cases hst : eop std tb s.fr s.hp o.type o.op with
      | none =>
        have hpop : pop std tb s.fr s.hp o.op = none := by
          rw [hop]
          cases xs with | mk xs => ?_
          simp only at hxs
          subst hxs
          rfl
        rw [hst, hpop] at h
        cases hl : limOk (some n) s.fr o.op <;> rw [hl] at h <;> exact h.elim
      | some r =>
        have hst2 := hst
        rw [hop] at hst2
        rw [hst] at h
        obtain ⟨v, ck, ob⟩ := r
        simp only at h
        refine fin' h (fun hob => eop_ok ht hs.fr hs.ok (by rw [hs.ck]; exact hst) hob) (fun j hj => ?_)
        unfold eop at hst2
        simp only [hxs] at hst2
        split at hst2
        · rename_i s' x' T1 T2 e1 e2
          injection e1 with e1 e3
          injection e3 with e3 _
          subst e1; subst e3
          cases hb : Nat.beq T1 T2 with
          | false => rw [hb] at hst2; cases hst2
          | true =>
            rw [hb] at hst2
            simp only [cond_true] at hst2
            have hM : appM std tb s.hp T1 (ev s.fr x) (ev s.fr y) = none := by
              rw [hx]
              unfold appM
              split
              · rename_i i' b' h1 h2
                injection h1 with h1
                injection h1 with h1
                subst h1
                split
                · rename_i _ _ _ _ _ _ _ hc' _
                  rw [hci] at hc'; cases hc'
                · rfl
              · rfl
            have hN : appendN std tb s.hp T1 (ev s.fr x) (ev s.fr y) = some (v, ck, ob) := by
              cases hq : appendN std tb s.hp T1 (ev s.fr x) (ev s.fr y) with
              | none => rw [hq, hM] at hst2; cases hst2
              | some q => rw [hq] at hst2; exact hst2
            rw [hx] at hN
            unfold appendN at hN
            simp only at hN
            have hjl : j < s.hp.length := by
              obtain ⟨news, rfl⟩ := hpre
              rw [hlen, List.length_append]; omega
            split at hN
            · split at hN
              · split at hN
                · have := appS_pre hN j (by omega) (by rw [List.length_append]; omega)
                  rw [this, List.getElem?_append_left hjl]
                · cases hN
              · cases hN
            · exact appS_pre hN j (by omega) hjl
        · cases hst2
  intro d
  induction d with
  | fin =>
    intro s obs a w hp _ h hs _
    exact alist_ok ht he hK hQ h ⟨hp, hs⟩
  | no => intro s obs a w hp _ h; exact h.elim
  | one i r _ => intro s obs a w hp hseg h hs _; exact dr_tail ht he hK hQ hseg h ⟨hp, hs⟩
  | tl is r _ => intro s obs a w hp hseg h hs _; exact dr_tail ht he hK hQ hseg h ⟨hp, hs⟩
  | done => intro s obs a w hp hseg h hs _; exact hQ _ _ _ _ h ⟨hp, hs⟩
  | seg k is r ih =>
    intro s obs a w hp hseg h hs hnews
    have hK' : ∀ s obs, alistD std (mkX P B fin) tb (some n) l lt r s obs K → All obs := fun _ _ h => alistD_all hK h
    match k with
    | 0 =>
      simp only [segD, Bool.and_eq_true, List.all_eq_true] at hseg
      refine reads_ok (ld := false) ht he hK' hn0 (fun z _ h => by cases h) (by rw [hz0]; exact Nat.zero_le _) (fun o ho => ?_) h hs hnews (fun s' obs' a' hp' g1 g2 g3 => ih hseg.2 g1 g2 g3)
      obtain ⟨i, hi, rfl⟩ := List.mem_map.1 ho
      exact ⟨(hseg.1 i hi).1, .inr (hseg.1 i hi).2⟩
    | 1 =>
      simp only [segD, Bool.and_eq_true, List.all_eq_true] at hseg
      refine reads_ok (ld := true) ht he hK' hn0 (fun z hz _ => hz) (by rw [hz0]; exact Nat.zero_le _) (fun o ho => ?_) h hs hnews (fun s' obs' a' hp' g1 g2 g3 => ih hseg.2 g1 g2 g3)
      obtain ⟨i, hi, rfl⟩ := List.mem_map.1 ho
      exact ⟨hseg.1 i hi, .inl rfl⟩
    | 2 =>
      simp only [segD, Bool.and_eq_true, List.all_eq_true] at hseg
      exact ones _ hK' _ (fun s obs a w hp g1 g2 g3 => ih hseg.2 g1 g2 g3) is s obs a w hp hseg.1 h hs hnews
    | 3 =>
      have hseg' : segD l r = true := hseg
      match is, h with
      | [i], h => exact stores _ hK' _ (fun s obs a w hp g1 g2 g3 => ih hseg' g1 g2 g3) i s obs a w hp h hs hnews
      | [], h => exact h.elim
      | _ :: _ :: _, h => exact h.elim
    | k + 4 =>
      simp only [segD, Bool.and_eq_true, List.all_eq_true] at hseg
      exact ones _ hK' _ (fun s obs a w hp g1 g2 g3 => ih hseg.2 g1 g2 g3) is s obs a w hp hseg.1 h hs hnews
  | alt i x y ihx ihy =>
    intro s obs a w hp hseg h hs hnews
    simp only [segD, Bool.and_eq_true] at hseg
    refine ⟨ones _ (fun _ _ h => alistD_all hK h) _ (fun s obs a w hp g1 g2 g3 => ihx hseg.2.1 g1 g2 g3) [i] s obs a w hp (fun j hj => ?_) h.1 hs hnews, ?_⟩
    · rw [List.mem_singleton.1 hj]; exact hseg.1
    · have h2 := h.2
      cases y with
      | no => trivial
      | one i' r' => exact ihy hseg.2.2 h2 hs hnews
      | tl is' r' => exact ihy hseg.2.2 h2 hs hnews
      | done => exact ihy hseg.2.2 h2 hs hnews
      | fin => exact ihy hseg.2.2 h2 hs hnews
      | seg k is r => exact ihy hseg.2.2 h2 hs hnews
      | alt i' x' y' => exact ihy hseg.2.2 h2 hs hnews

/-! stores into blocks that lay ahead, among reads of other blocks that may come up behind them, too -/
theorem stX_imp {es : List (Nat × Ck)} {fr : List AV} {o : Oper} {p : Prop} (h : stX es fr o p) : ∃ T x y i, o.op = .store T x y ∧ ldIdx (ev fr x) = some i ∧ hasK i es = true ∧ o.guard = none ∧ p := by
  unfold stX at h
  split at h
  · rename_i T x y h1 h2
    split at h
    · rename_i i hi
      cases hb : hasK i es with
      | true => rw [hb] at h; exact ⟨T, x, y, i, h1, hi, hb, h2, h⟩
      | false => rw [hb] at h; exact h.elim
    · exact h.elim
  · exact h.elim
theorem bif_len {n m : Nat} {p : Prop} (h : bif Nat.beq n m then p else False) : n = m ∧ p := by
  cases hb : Nat.beq n m with
  | true => rw [hb] at h; exact ⟨Nat.eq_of_beq_eq_true hb, h⟩
  | false => rw [hb] at h; exact h.elim
theorem alistX_all {O : Ops} {X : Cx} {n : Nat} {all : List Oper} {lt : List Nat} {K : St → List Prop → Prop} (hK : ∀ s obs, K s obs → All obs) : ∀ {d : Dr} {es : List (Nat × Ck)} {s : St} {obs : List Prop}, alistX O X tb n all lt d es s obs K → All obs := by
  intro d
  induction d with
  | fin => intro es s obs h; exact alist_all hK h
  | no => intro es s obs h; exact h.elim
  | alt i x y _ _ => intro es s obs h; exact h.elim
  | one i r _ => intro es s obs h; exact h.elim
  | tl is r _ => intro es s obs h; exact h.elim
  | done => intro es s obs h; exact h.elim
  | seg k is r ih =>
    intro es s obs h
    unfold alistX at h
    cases hk : Nat.beq k 4 with
    | false =>
      rw [hk] at h
      simp only at h
      cases hk0 : Nat.beq k 0 with
      | false => rw [hk0] at h; exact alist_all (fun _ _ h => ih (bif_len h).2) h
      | true => rw [hk0] at h; exact alist_all (fun _ _ h => ih (bif_len h).2) h
    | true =>
      rw [hk] at h
      simp only at h
      split at h
      · obtain ⟨_, _, _, _, _, _, _, _, h⟩ := stX_imp h
        exact alist_all (fun _ _ h => ih h) h
      · exact h.elim
/-- the same blocks, but some of them hidden -/
def Hid (ix : List Nat) (hp hpH : List Ch) : Prop := hpH.length = hp.length ∧ ∀ j, (j ∉ ix → hpH[j]? = hp[j]?) ∧ (j ∈ ix → hpH[j]? = (hp[j]?).map fun c => .gone c.face)
theorem Hid.faces {ix : List Nat} {hp hpH : List Ch} (h : Hid ix hp hpH) : faces hpH = faces hp := by
  refine List.ext_getElem? fun j => ?_
  simp only [Go.Proofs.YtmnhfaaaaejpaaaGreat.faces, List.getElem?_map]
  by_cases hj : j ∈ ix
  · rw [(h.2 j).2 hj, Option.map_map]; rfl
  · rw [(h.2 j).1 hj]
theorem Hid.ok {ix : List Nat} {hp hpH : List Ch} (h : Hid ix hp hpH) {B w : World} (hk : HOk B hp w) : HOk B hpH w := by
  have key : ∀ j c, hpH[j]? = some c → hp[j]? = some c ∨ ∃ f, c = Ch.gone f := fun j c hc => by
    by_cases hj : j ∈ ix
    · rw [(h.2 j).2 hj] at hc
      cases hh : hp[j]? with
      | none => rw [hh] at hc; cases hc
      | some d => rw [hh] at hc; injection hc with hc; exact .inr ⟨_, hc.symm⟩
    · rw [(h.2 j).1 hj] at hc; exact .inl hc
  refine ⟨hk.bel, fun i c hc => ?_, fun i j c d hij hc hd hw b hb1 hb2 => ?_⟩
  · rw [h.faces]
    rcases key i c hc with g | ⟨f, rfl⟩
    · exact hk.ok i c g
    · trivial
  · rcases key i c hc with g | ⟨f, rfl⟩
    · rcases key j d hd with g2 | ⟨f, rfl⟩
      · exact hk.sep i j c d hij g g2 hw b hb1 hb2
      · exact hb2
    · exact hb1
theorem Hid.cnt {ix : List Nat} {hp hpH : List Ch} (h : Hid ix hp hpH) : ∀ j, (j ∉ ix → (hpH.map Ch.ck)[j]? = (hp.map Ch.ck)[j]?) ∧ (j ∈ ix → (hpH.map Ch.ck)[j]? = ((hp.map Ch.ck)[j]?).map fun _ => .gone) := by
  intro j
  simp only [List.getElem?_map]
  refine ⟨fun hj => by rw [(h.2 j).1 hj], fun hj => by rw [(h.2 j).2 hj, Option.map_map, Option.map_map]; rfl⟩
theorem shwK_eq {L : List Ck} : ∀ (ix : List Nat) (l : List Ck), l.length = L.length → (∀ j, j ∉ ix → l[j]? = L[j]?) → shwK l (ix.map fun i => (i, nthCk L i)) = L := by
  intro ix
  induction ix with
  | nil => intro l _ h; exact List.ext_getElem? fun j => h j (fun h => by cases h)
  | cons i r ih =>
    intro l hl h
    simp only [List.map_cons, shwK]
    refine ih _ (by rw [setK_eq, List.length_set]; exact hl) fun j hj => ?_
    rw [setK_eq, List.getElem?_set]
    split
    · rename_i e
      subst e
      split
      · rename_i hlt
        rw [nthCk_eq, List.getD_eq_getElem?_getD, List.getElem?_eq_getElem (by omega)]; rfl
      · rename_i hlt
        exact (List.getElem?_eq_none (by omega)).symm
    · rename_i hne
      exact h j (fun hm => by rcases List.mem_cons.1 hm with e | hm; exact hne e.symm; exact hj hm)
theorem hidK_eq {H : List Ck} : ∀ (es : List (Nat × Ck)) (l : List Ck), l.length = H.length → (∀ j, j ∉ es.map Prod.fst → l[j]? = H[j]?) → (∀ j, j ∈ es.map Prod.fst → j < H.length → H[j]? = some .gone) → hidK l es = H := by
  intro es
  induction es with
  | nil => intro l _ h _; exact List.ext_getElem? fun j => h j (fun h => by cases h)
  | cons p r ih =>
    obtain ⟨i, c⟩ := p
    intro l hl h hg
    simp only [hidK]
    refine ih _ (by rw [setK_eq, List.length_set]; exact hl) (fun j hj => ?_) (fun j hj => hg j (List.mem_cons_of_mem _ hj))
    rw [setK_eq, List.getElem?_set]
    split
    · rename_i e
      subst e
      split
      · rename_i hlt
        exact (hg i List.mem_cons_self (by omega)).symm
      · rename_i hlt
        exact (List.getElem?_eq_none (by omega)).symm
    · rename_i hne
      exact h j (fun hm => by rcases List.mem_cons.1 hm with e | hm; exact hne e.symm; exact hj hm)
theorem curK_eq (L : List Ck) : ∀ es : List (Nat × Ck), curK L es = (es.map Prod.fst).map fun i => (i, nthCk L i) := by
  intro es
  induction es with
  | nil => rfl
  | cons p r ih => obtain ⟨i, c⟩ := p; simp only [curK, List.map_cons, ih]
theorem fst_map (L : List Ck) (ix : List Nat) : (ix.map fun i => (i, nthCk L i)).map Prod.fst = ix := by
  rw [List.map_map]; exact List.map_id' _
theorem hasK_imp {L : List Ck} {i : Nat} : ∀ {ix : List Nat}, hasK i (ix.map fun i => (i, nthCk L i)) = true → i ∈ ix ∧ ((∃ T cs, nthCk L i = .blk T cs) ∨ ∃ T e l, nthCk L i = .own T e l) := by
  intro ix
  induction ix with
  | nil => intro h; cases h
  | cons j r ih =>
    intro h
    simp only [List.map_cons, hasK] at h
    cases hb : Nat.beq i j with
    | false => rw [hb] at h; have := ih h; exact ⟨List.mem_cons_of_mem _ this.1, this.2⟩
    | true =>
      have e := Nat.eq_of_beq_eq_true hb
      subst e
      rw [hb] at h
      simp only [cond_true] at h
      refine ⟨List.mem_cons_self, ?_⟩
      split at h
      · rename_i T cs hc; exact .inl ⟨T, cs, hc⟩
      · rename_i T e l hc; exact .inr ⟨T, e, l, hc⟩
      · cases h
theorem cntK_imp {L : List Ck} : ∀ {ix : List Nat} {es : List (Nat × Ck)}, cntK L ix = some es → es = ix.map fun i => (i, nthCk L i) := by
  intro ix
  induction ix with
  | nil => intro es h; injection h with h; exact h.symm
  | cons i r ih =>
    intro es h
    unfold cntK at h
    split at h
    · rename_i l T cs h1 h2
      injection h with h
      rw [← h, ih h1, List.map_cons, h2]
    · rename_i l T e xs h1 h2
      injection h with h
      rw [← h, ih h1, List.map_cons, h2]
    · cases h
theorem alist_nil {O : Ops} {X : Cx} {lim : Option Nat} {all : List Oper} {s : St} {obs : List Prop} {K : St → List Prop → Prop} : alist O X tb lim all [] s obs K = K s obs := rfl
theorem no_news {L : List Ch} {s : St} {w : World} {a : Act} {hp : List Ch} {W : World} (hs : SatH B hp s a w) (hnews : News W L hp) (hl : s.hp.length = L.length) : hp = L := by
  obtain ⟨news, rfl, _⟩ := hnews
  have h2 : (List.map Ch.ck (L ++ news)).length = s.hp.length := congrArg List.length hs.ck
  rw [List.length_map, List.length_append, hl] at h2
  have hnil : news = [] := List.eq_nil_of_length_eq_zero (by omega)
  rw [hnil, List.append_nil]
theorem drx_ok (ht : TabOk P tb) (he : EqOk P tb) {n : Nat} {ix : List Nat} {l : List Oper} {K : St → List Prop → Prop} (hK : ∀ s obs, K s obs → All obs) {hpH : List Ch} (hn0 : n = hpH.length)
    {Q : Exit → Act → World → Prop} (hQ : ∀ s obs a w, K s obs → Sat B s a w → Q .normal a w) {lt : List Nat} : ∀ {d : Dr} {es : List (Nat × Ck)} {s : St} {obs : List Prop} {a : Act} {w : World} {hp : List Ch}, segX l d = true →
    alistX std (mkX P B fin) tb n l lt d es s obs K → Hid ix hp hpH → es = (ix.map fun i => (i, nthCk (hp.map Ch.ck) i)) → HOk B.w hp w → SatH B hpH s a w →
    wpDr P l Q (fun z => HOk B.w hpH z) lt d a w := by
  -- the hidden blocks shown, and hidden anew
  have shw : ∀ {es : List (Nat × Ck)} {s : St} {a : Act} {w : World} {hp : List Ch}, Hid ix hp hpH → es = (ix.map fun i => (i, nthCk (hp.map Ch.ck) i)) → HOk B.w hp w → SatH B hpH s a w → SatH B hp ⟨s.fr, shwK s.hp es⟩ a w := fun {es s a w hp} hh hes hk hs => by
    refine ⟨?_, by have := hs.fr; rw [hh.faces] at this; exact this, hs.sz, hs.nd, by have := hs.pre; rw [hh.faces] at this; exact this, hk⟩
    rw [hes, ← hs.ck]
    exact (shwK_eq ix _ (by rw [List.length_map, List.length_map, hh.1]) fun j hj => (hh.cnt j).1 hj).symm
  have hid : ∀ {es : List (Nat × Ck)} {s : St} {a : Act} {w : World} {hp : List Ch}, Hid ix hp hpH → es.map Prod.fst = ix → SatH B hp s a w → SatH B hpH ⟨s.fr, hidK s.hp es⟩ a w := fun {es s a w hp} hh hes hs => by
    refine ⟨?_, by have := hs.fr; rw [← hh.faces] at this; exact this, hs.sz, hs.nd, by have := hs.pre; rw [← hh.faces] at this; exact this, hh.ok hs.ok⟩
    rw [← hs.ck]
    refine (hidK_eq es _ (by rw [List.length_map, List.length_map, hh.1]) (fun j hj => ((hh.cnt j).1 (by rw [hes] at hj; exact hj)).symm) (fun j hj hlt => ?_)).symm
    rw [hes] at hj
    rw [List.length_map, hh.1] at hlt
    rw [(hh.cnt j).2 hj, List.getElem?_map, List.getElem?_eq_getElem hlt]; rfl
  intro d
  induction d with
  | fin =>
    intro es s obs a w hp _ h hh hes hk hs
    exact alist_ok ht he hK hQ h ⟨hp, shw hh hes hk hs⟩
  | no => intro es s obs a w hp hseg; cases hseg
  | alt i x y _ _ => intro es s obs a w hp hseg; cases hseg
  | one i r _ => intro es s obs a w hp hseg; cases hseg
  | tl is r _ => intro es s obs a w hp hseg; cases hseg
  | done => intro es s obs a w hp hseg; cases hseg
  | seg k is r ih =>
    intro es s obs a w hp hseg h hh hes hk hs
    have hf1 : es.map Prod.fst = ix := by rw [hes]; exact fst_map _ _
    match k with
    | 0 =>
      simp only [segX, Bool.and_eq_true, List.all_eq_true] at hseg
      refine reads_ok (ld := false) (hp0 := hp) ht he (fun s' obs' h => alistX_all hK (bif_len h).2) (by rw [hn0, hh.1]) (fun z _ h => by cases h) (Nat.le_refl _) (fun o ho => ?_) h (shw hh hes hk hs) (News.nil _ _) (fun s' obs' a' hp' g1 g2 g3 => ?_)
      · obtain ⟨i, hi, rfl⟩ := List.mem_map.1 ho
        exact ⟨(hseg.1 i hi).1, .inr (hseg.1 i hi).2⟩
      · obtain ⟨hl, g1⟩ := bif_len g1
        have e := no_news g2 g3 (by rw [hl, hn0, hh.1])
        subst e
        exact ih hseg.2 g1 hh hes hk (hid hh hf1 g2)
    | 1 =>
      simp only [segX, Bool.and_eq_true, List.all_eq_true] at hseg
      refine reads_ok (ld := true) (hp0 := hpH) ht he (fun s' obs' h => alistX_all hK (bif_len h).2) hn0 (fun z hz' _ => hz') (Nat.le_refl _) (fun o ho => ?_) h hs (News.nil _ _) (fun s' obs' a' hp' g1 g2 g3 => ?_)
      · obtain ⟨i, hi, rfl⟩ := List.mem_map.1 ho
        exact ⟨hseg.1 i hi, .inl rfl⟩
      · obtain ⟨hl, g1⟩ := bif_len g1
        have e := no_news g2 g3 (by rw [hl, hn0])
        subst e
        exact ih hseg.2 g1 hh hes hk g2
    | 2 => cases hseg
    | 3 => cases hseg
    | k + 5 => cases hseg
    | 4 =>
      have hseg' : segX l r = true := hseg
      unfold alistX at h
      simp only at h
      split at h
      · rename_i i
        obtain ⟨T, x, y, ex, hop, hli, hhas, hgd, h⟩ := stX_imp h
        rw [hes] at hhas
        obtain ⟨hin, hkind⟩ := hasK_imp hhas
        have hs2 := shw hh hes hk hs
        have hshw : shwK s.hp es = hp.map Ch.ck := hs2.ck.symm
        obtain ⟨o, ho⟩ : ∃ o, l.getD i default = o := ⟨_, rfl⟩
        have hpk : pick l [i] = [o] := by simp only [pick, List.map_cons, List.map_nil, ho]
        show wpList P l.toArray (Exit.then (fun a' w' => HOk B.w hpH w' ∧ wpDr P l Q (fun z => HOk B.w hpH z) lt r a' w') Q) (pick l [i]) a w
        rw [hpk] at h ⊢
        rw [ho] at hop hgd
        unfold alist at h
        rw [hgd] at h
        simp only at h
        unfold doOp at h
        rw [hop] at h
        simp only at h
        unfold stepR at h
        have hpop : pop std tb s.fr (shwK s.hp es) o.op = none := by rw [hop]; rfl
        cases hst : eop std tb s.fr (shwK s.hp es) o.type o.op with
        | none =>
          rw [hst, hpop] at h
          have hno : rst std tb ⟨s.fr, shwK s.hp es⟩ T (ev s.fr x) (ev s.fr y) = none := by
            unfold rst
            split
            · rename_i i' k' j' h1 h2
              rw [h1] at hli
              have hii : i' = ex := by injection hli
              subst hii
              simp only
              rw [hshw]
              split
              · rename_i e1 _
                rcases hkind with ⟨_, _, e2⟩ | ⟨_, _, _, e2⟩ <;> rw [e2] at e1 <;> cases e1
              · rfl
            · rfl
          simp only [hno] at h
          cases hl : limOk none s.fr o.op <;> rw [hl] at h <;> exact h.elim
        | some r' =>
          rw [hst] at h
          obtain ⟨v, ck, ob⟩ := r'
          simp only at h
          rw [alist_nil] at h
          have hob : All (appP obs ob) := alistX_all hK h
          have hob2 := (appP_all.1 hob).2
          unfold eop at hst
          rw [hop] at hst
          simp only at hst
          split at hst
          · rename_i lv hlv
            rw [hshw] at hst
            obtain ⟨w', i', c, c', h1, h2, h3, h4, h5, h6, h7, h8, h9, g1, g2, g3, g4, g5⟩ := stoA_ok' ht hs2.fr hs2.ok hop hlv hst hob2
            have hii : i' = ex := by rw [h6] at hli; injection hli
            subst hii
            have hs' := put_ok hs2 h3 (by rw [h4]; exact FsLe.refl _) h5 (d := o.dst) (v := v) (u := undef) (by rw [h2]; exact .inr rfl)
            have hil := (List.getElem?_eq_some_iff.1 h7).1
            have hface : c'.face = c.face := by
              have := congrArg (fun f : Faces => f[i']?) h4
              simp only [faces, List.getElem?_map, List.getElem?_set_self hil, h7, Option.map_some, Option.some.injEq] at this
              exact this
            have hh' : Hid ix (hp.set i' c') hpH := by
              refine ⟨by rw [List.length_set]; exact hh.1, fun j => ⟨fun hj => ?_, fun hj => ?_⟩⟩
              · rw [List.getElem?_set, if_neg (fun e => hj (by rw [← e]; exact hin))]; exact (hh.2 j).1 hj
              · rw [List.getElem?_set]
                split
                · rename_i e
                  subst e
                  rw [(hh.2 i').2 hj, h7]
                  simp [hface]
                · exact (hh.2 j).2 hj
            have hw : Region.wanted o (yielded l.toArray a.tmps) = true := by simp [Region.wanted, hgd]
            unfold wpList
            rw [if_pos hw]
            refine .inl ?_
            unfold Oper.wp
            rw [h1]
            refine ⟨hh'.ok h5, ?_⟩
            refine ih (es := curK ck es) (obs := appP obs ob) hseg' ?_ hh' ?_ h5 (hid hh' hf1 hs')
            · have hpc : (St.put ⟨s.fr, ck⟩ o.dst v).hp = ck := by cases o.dst <;> rfl
              have h' := h
              rw [hpc] at h'
              rw [hpc]
              exact h'
            · rw [curK_eq, hf1, h3]
          · cases hst
      · exact h.elim
theorem drawx_ok (ht : TabOk P tb) (he : EqOk P tb) (hm : P.follows .mixedOrders = true) {id : Nat} {ix : List Nat} {es : List (Nat × Ck)} {ops : Array Oper} {d : Dr} {lt : List Nat} (hd : ndL ops.toList = true) (hB : pdB .any ops d lt = true) (hX : segX ops.toList d = true) {K : St → List Prop → Prop} (hK : ∀ s obs, K s obs → All obs)
    {Q : Exit → Act → World → Prop} (hQ : ∀ s obs a w, K s obs → Sat B s a w → Q .normal a w) (hc : cntK s.hp ix = some es) (h : alistX std (mkX P B fin) tb s.hp.length ops.toList lt d es ⟨s.fr, hidK s.hp es⟩ [] K) (hs : Sat B s a w) :
    Both P (.region id ops true) Q a w := by
  obtain ⟨l, rfl⟩ : ∃ l : List Oper, ops = l.toArray := ⟨ops.toList, by simp⟩
  simp only at h hX
  obtain ⟨hp, hs⟩ := hs
  have hbw : Below w.heap.size w w.drew := (Below.refl _ _).drew
  have hs' : SatH B hp s a w.drew := ⟨hs.ck, hs.fr, hs.sz, hs.nd, hs.pre, hs.ok.later hbw⟩
  have hes := cntK_imp hc
  obtain ⟨hpH, hH⟩ : ∃ hpH : List Ch, hpH = hp.mapIdx fun i c => if i ∈ ix then .gone c.face else c := ⟨_, rfl⟩
  have hh : Hid ix hp hpH := by
    refine ⟨by rw [hH, List.length_mapIdx], fun j => ⟨fun hj => ?_, fun hj => ?_⟩⟩
    · rw [hH, List.getElem?_mapIdx]
      cases hp[j]? with
      | none => rfl
      | some c => simp [hj]
    · rw [hH, List.getElem?_mapIdx]
      cases hp[j]? with
      | none => rfl
      | some c => simp [hj]
  have hf1 : es.map Prod.fst = ix := by rw [hes]; exact fst_map _ _
  have hsx : SatH B hpH ⟨s.fr, hidK s.hp es⟩ a w.drew := by
    refine ⟨?_, by rw [hh.faces]; exact hs'.fr, hs'.sz, hs'.nd, by rw [hh.faces]; exact hs'.pre, hh.ok hs'.ok⟩
    rw [← hs'.ck]
    refine (hidK_eq es _ (by rw [List.length_map, List.length_map, hh.1]) (fun j hj => ((hh.cnt j).1 (by rw [hf1] at hj; exact hj)).symm) (fun j hj hlt => ?_)).symm
    rw [hf1] at hj
    rw [List.length_map, hh.1] at hlt
    rw [(hh.cnt j).2 hj, List.getElem?_map, List.getElem?_eq_getElem hlt]; rfl
  refine wp_region_pdS (S := fun z => HOk B.w hpH z) d lt hm (by simpa using hd) hB (hh.ok hs'.ok) ?_
  exact drx_ok (Q := Exit.then (fun a w => Q .normal a w) (NoPan Q)) ht he hK (by rw [hh.1, ← hs'.ck, List.length_map]) (fun s obs a w g1 g2 => hQ s obs a w g1 g2) hX h hh (by rw [hes, ← hs'.ck]) hs'.ok hsx

theorem draw_ok (ht : TabOk P tb) (he : EqOk P tb) (hm : P.follows .mixedOrders = true) {id : Nat} {ops : Array Oper} {d : Dr} {lt : List Nat} (hd : ndL ops.toList = true) (hB : (pdB .any ops d lt && segD ops.toList d) = true) {K : St → List Prop → Prop} (hK : ∀ s obs, K s obs → All obs)
    {Q : Exit → Act → World → Prop} (hQ : ∀ s obs a w, K s obs → Sat B s a w → Q .normal a w) (h : alistD std (mkX P B fin) tb (some s.hp.length) ops.toList lt d s [] K) (hs : Sat B s a w) :
    Both P (.region id ops true) Q a w := by
  obtain ⟨l, rfl⟩ : ∃ l : List Oper, ops = l.toArray := ⟨ops.toList, by simp⟩
  simp only [Bool.and_eq_true] at hB
  simp only at h
  obtain ⟨hp, hs⟩ := hs
  have hbw : Below w.heap.size w w.drew := (Below.refl _ _).drew
  have hs' : SatH B hp s a w.drew := ⟨hs.ck, hs.fr, hs.sz, hs.nd, hs.pre, hs.ok.later hbw⟩
  refine wp_region_pdS (S := fun z => HOk B.w hp z) d lt hm (by simpa using hd) hB.1 hs'.ok ?_
  exact dr_ok (Q := Exit.then (fun a w => Q .normal a w) (NoPan Q)) (W0 := { w with heap := #[] }) ht he hK rfl hs'.ok (by rw [← hs.ck, List.length_map]) (fun s obs a w g1 g2 => hQ s obs a w g1 g2) hB.2 h hs' ⟨[], by simp, fun _ h => by cases h⟩

/-! own slices are frozen -/
theorem frz_one {w : World} (hs : SatH B hp s a w) (i : Nat) : ∃ hp', SatH B hp' ⟨s.fr, setK s.hp i (ownK (nthCk s.hp i))⟩ a w ∧ faces hp' = faces hp := by
  cases hd : hp[i]? with
  | none =>
    refine ⟨hp, ⟨?_, hs.fr, hs.sz, hs.nd, hs.pre, hs.ok⟩, rfl⟩
    rw [setK_eq, List.set_eq_of_length_le]
    · exact hs.ck
    · rw [← hs.ck, List.length_map]; exact List.getElem?_eq_none_iff.1 hd
  | some d =>
    have hck : nthCk s.hp i = d.ck := by
      rw [← hs.ck, nthCk_eq, List.getD_eq_getElem?_getD, List.getElem?_map, hd]; rfl
    have same : d.ck = ownK d.ck → ∃ hp', SatH B hp' ⟨s.fr, setK s.hp i (ownK (nthCk s.hp i))⟩ a w ∧ faces hp' = faces hp := fun e => by
      refine ⟨hp, ⟨?_, hs.fr, hs.sz, hs.nd, hs.pre, hs.ok⟩, rfl⟩
      rw [setK_eq, hck, ← e, ← hs.ck]
      refine List.ext_getElem? fun j => ?_
      rw [List.getElem?_set]
      split
      · rename_i e1
        subst e1
        have hil := (List.getElem?_eq_some_iff.1 hd).1
        simp [hil]
        have := List.getElem?_eq_getElem hil
        rw [hd] at this
        injection this with this
        rw [← this]
      · rfl
    cases d with
    | blk g T cs => exact same rfl
    | arr q A c e l => exact same rfl
    | ro g T cs => exact same rfl
    | gone f => exact same rfl
    | ful A e l => exact same rfl
    | keep l => exact same rfl
    | mat q A c rs ll => exact same rfl
    | mtw A c T U rs ll =>
      have hmt : MtwOk w B.w.heap.size A c T U rs ll := hs.ok.ok i _ hd
      have hfs : faces (hp.set i (.mat true A c rs ll)) = faces hp := faces_set hd rfl
      have htt : ∀ b, matTouch A rs ll b → mtwTouch A rs b := fun b hb => by
        rcases hb with ⟨_, h1⟩ | ⟨k, v, l, h1, _, _, h2⟩
        · exact .inl h1
        · exact .inr ⟨k, v, h1, h2⟩
      have hok : ChOk B.w w (faces hp) (.mat true A c rs ll) := ⟨fun _ b hb => (MtwOk.lt hmt (htt b hb)).1, MtwOk.mat hmt⟩
      have hil := (List.getElem?_eq_some_iff.1 hd).1
      have key : ∀ (j : Nat) d', (hp.set i (.mat true A c rs ll))[j]? = some d' → (j = i ∧ d' = .mat true A c rs ll) ∨ (j ≠ i ∧ hp[j]? = some d') := fun j d' hj => by
        rw [List.getElem?_set] at hj
        split at hj
        · rename_i e1
          injection hj with hj
          exact .inl ⟨e1.symm, hj.symm⟩
        · rename_i e1; exact .inr ⟨fun e => e1 e.symm, hj⟩
      refine ⟨hp.set i (.mat true A c rs ll), ⟨?_, by rw [hfs]; exact hs.fr, hs.sz, hs.nd, by rw [hfs]; exact hs.pre, ⟨hs.ok.bel, fun j d' hj => ?_, fun j k d' e' hjk hj hk' hw b h1 h2 => ?_⟩⟩, hfs⟩
      · rw [List.map_set, setK_eq, hck, hs.ck]; rfl
      · rw [hfs]
        rcases key j d' hj with ⟨rfl, rfl⟩ | ⟨_, hj'⟩
        · exact hok
        · exact hs.ok.ok j d' hj'
      · rcases key j d' hj with ⟨rfl, rfl⟩ | ⟨hji, hj'⟩
        · cases hw
        · rcases key k e' hk' with ⟨rfl, rfl⟩ | ⟨hki, hk2⟩
          · exact hs.ok.sep j k d' _ hjk hj' hd hw b h1 (htt b h2)
          · exact hs.ok.sep j k d' e' hjk hj' hk2 hw b h1 h2
    | own A c T e l =>
      have hown : w.ownsRow B.w.heap.size T e.sz (.slice A l.length c) l.length (e.flat l) := hs.ok.ok i _ hd
      have hfs : faces (hp.set i (.arr true A c e l)) = faces hp := faces_set hd rfl
      have hok : ChOk B.w w (faces hp) (.arr true A c e l) := by
        refine ⟨fun _ ad had h0 => ?_, ?_, ?_, fun h0 => ?_⟩
        · rcases hown.2 with ⟨h1, h2⟩ | ⟨g, cap, cur, hv, hg, _⟩
          · omega
          · injection hv with hA
            rw [had] at hA
            injection hA with hA
            subst hA
            exact hg
        · rcases hown.2 with ⟨h1, h2⟩ | ⟨g, cap, cur, hv, _, _, h3, _⟩
          · omega
          · injection hv with _ _ hv; omega
        · rcases hown.2 with ⟨h1, h2⟩ | ⟨g, cap, cur, hv, _, _, _, h3, _⟩
          · injection h1 with _ _ h1; simp only [maxLen]; omega
          · injection hv with _ _ hv; omega
        · rcases hown.2 with ⟨h1, h2⟩ | ⟨g, cap, cur, hv, _⟩
          · omega
          · injection hv with hA
            subst hA
            refine ⟨g, 0, rfl, fun k hk f v hv => ?_⟩
            have := hown.cells (g := g) rfl _ _ (e.flat_at l k f v hk hv)
            rw [add_at', Nat.zero_add] at this
            rw [Nat.zero_add]; exact this
      have hil := (List.getElem?_eq_some_iff.1 hd).1
      have key : ∀ (j : Nat) d', (hp.set i (.arr true A c e l))[j]? = some d' → (j = i ∧ d' = .arr true A c e l) ∨ (j ≠ i ∧ hp[j]? = some d') := fun j d' hj => by
        rw [List.getElem?_set] at hj
        split at hj
        · rename_i e1
          simp at hj
          exact .inl ⟨e1.symm, hj.symm⟩
        · rename_i e1; exact .inr ⟨fun e => e1 e.symm, hj⟩
      refine ⟨hp.set i (.arr true A c e l), ⟨?_, by rw [hfs]; exact hs.fr, hs.sz, hs.nd, by rw [hfs]; exact hs.pre, ⟨hs.ok.bel, fun j d' hj => ?_, fun j k d' e' hjk hj hk' hw b h1 h2 => ?_⟩⟩, hfs⟩
      · rw [List.map_set, setK_eq, hck, hs.ck]; rfl
      · rw [hfs]
        rcases key j d' hj with ⟨rfl, rfl⟩ | ⟨_, hj'⟩
        · exact hok
        · exact hs.ok.ok j d' hj'
      · rcases key j d' hj with ⟨rfl, rfl⟩ | ⟨hji, hj'⟩
        · cases hw
        · rcases key k e' hk' with ⟨rfl, rfl⟩ | ⟨hki, hk2⟩
          · obtain ⟨_, ad, had, hab⟩ := h2
            exact hs.ok.sep j k d' _ hjk hj' hd hw b h1 ⟨ad, had, hab⟩
          · exact hs.ok.sep j k d' e' hjk hj' hk2 hw b h1 h2
/-- a block that is let go -/
theorem gone_one {w : World} (hs : SatH B hp s a w) (i : Nat) : ∃ hp', SatH B hp' ⟨s.fr, setK s.hp i .gone⟩ a w ∧ faces hp' = faces hp := by
  cases hd : hp[i]? with
  | none =>
    refine ⟨hp, ⟨?_, hs.fr, hs.sz, hs.nd, hs.pre, hs.ok⟩, rfl⟩
    rw [setK_eq, List.set_eq_of_length_le]
    · exact hs.ck
    · rw [← hs.ck, List.length_map]; exact List.getElem?_eq_none_iff.1 hd
  | some d =>
    have hfs : faces (hp.set i (.gone d.face)) = faces hp := faces_set hd rfl
    have hil := (List.getElem?_eq_some_iff.1 hd).1
    have key : ∀ (j : Nat) d', (hp.set i (.gone d.face))[j]? = some d' → (j = i ∧ d' = .gone d.face) ∨ (j ≠ i ∧ hp[j]? = some d') := fun j d' hj => by
      rw [List.getElem?_set] at hj
      split at hj
      · rename_i e1
        simp at hj
        exact .inl ⟨e1.symm, hj.symm⟩
      · rename_i e1; exact .inr ⟨fun e => e1 e.symm, hj⟩
    refine ⟨hp.set i (.gone d.face), ⟨?_, by rw [hfs]; exact hs.fr, hs.sz, hs.nd, by rw [hfs]; exact hs.pre, ⟨hs.ok.bel, fun j d' hj => ?_, fun j k d' e' hjk hj hk' hw b h1 h2 => ?_⟩⟩, hfs⟩
    · rw [List.map_set, setK_eq, hs.ck]; rfl
    · rw [hfs]
      rcases key j d' hj with ⟨rfl, rfl⟩ | ⟨_, hj'⟩
      · trivial
      · exact hs.ok.ok j d' hj'
    · rcases key j d' hj with ⟨rfl, rfl⟩ | ⟨hji, hj'⟩
      · cases hw
      · rcases key k e' hk' with ⟨rfl, rfl⟩ | ⟨hki, hk2⟩
        · exact h2.elim
        · exact hs.ok.sep j k d' e' hjk hj' hk2 hw b h1 h2
theorem frz_ok {w : World} {fr : List AV} {all : List Oper} : ∀ {l : List Oper} {ck : List Ck} {hp : List Ch}, SatH B hp ⟨fr, ck⟩ a w → ∃ hp', SatH B hp' ⟨fr, frzL tb fr all l ck⟩ a w := by
  intro l
  induction l with
  | nil => intro ck hp hs; exact ⟨hp, hs⟩
  | cons o r ih =>
    intro ck hp hs
    unfold frzL
    split
    · rename_i T t lo hi mx ho
      unfold frzAt
      split
      · rename_i i hi'
        obtain ⟨hp', hs', _⟩ := frz_one hs i
        exact ih hs'
      · exact ih hs
    · exact ih hs
theorem frz_sat {w : World} {all : List Oper} (h : Sat B s a w) : Sat B ⟨s.fr, frzL tb s.fr all all s.hp⟩ a w := by
  obtain ⟨hp, hs⟩ := h
  exact frz_ok hs

/-! statements -/
def regsB (ps : Pis) : Code → Bool
  | .region id ops draw => ndL ops.toList && match draw with
    | false => true
    | true => match getPi ps id with
      | some (π, lt) => regB ops.toList π lt
      | none => true
  | .seq a b => regsB ps a && regsB ps b
  | .cond _ x y => regsB ps x && regsB ps y
  | .block _ b => regsB ps b
  | .scope b => regsB ps b
  | _ => true

theorem altR_out {d : Dr} {p : Prop} (h : altR d p) (hd : d ≠ .no) : p := by
  cases d <;> first | exact h | exact absurd rfl hd
theorem awO_ok (ht : TabOk P tb) (he : EqOk P tb) {all : List Oper} {K : St → Prop} {Q : Exit → Act → World → Prop} (hQ : ∀ s a w, K s → Sat B s a w → Q .normal a w) : ∀ (d : Dr),
    (∀ (n : Nat) (listed : Array Bool) (s : St) (a : Act) (w : World), ordW all.toArray d true listed n = true → awO std (mkX P B fin) tb all K d s → Sat B s a w → wpAny P .any all.toArray Q n listed a w) ∧
    (∀ (n : Nat) (listed : Array Bool) (s : St) (a : Act) (w : World), ordW all.toArray d false listed n = true → awO std (mkX P B fin) tb all K d s → Sat B s a w → ∀ j ∈ d.heads, wpOp P all.toArray Q j (wpAny P .any all.toArray Q (n - 1) (listed.setIfInBounds j true)) a w) := by
  intro d
  induction d with
  | fin =>
    refine ⟨fun n listed s a w hB h hs => ?_, fun n listed s a w _ _ _ j hj => by cases hj⟩
    simp only [ordW, Bool.and_eq_true, decide_eq_true_eq] at hB
    obtain ⟨rfl, h2⟩ := hB
    exact ⟨by simpa using h2, hQ _ _ _ h hs⟩
  | no => exact ⟨fun n listed s a w hB => by simp [ordW] at hB, fun n listed s a w _ _ _ j hj => by cases hj⟩
  | seg k is r _ => exact ⟨fun n listed s a w hB => by simp [ordW] at hB, fun n listed s a w _ _ _ j hj => by cases hj⟩
  | one i r _ => exact ⟨fun n listed s a w hB => by simp [ordW] at hB, fun n listed s a w _ _ _ j hj => by cases hj⟩
  | tl is r _ => exact ⟨fun n listed s a w hB => by simp [ordW] at hB, fun n listed s a w _ _ _ j hj => by cases hj⟩
  | done => exact ⟨fun n listed s a w hB => by simp [ordW] at hB, fun n listed s a w _ _ _ j hj => by cases hj⟩
  | alt i x y ihx ihy =>
    have key : ∀ (n : Nat) (listed : Array Bool) (s : St) (a : Act) (w : World), ordW all.toArray (.alt i x y) false listed n = true → awO std (mkX P B fin) tb all K (.alt i x y) s → Sat B s a w → ∀ j ∈ (Dr.alt i x y).heads, wpOp P all.toArray Q j (wpAny P .any all.toArray Q (n - 1) (listed.setIfInBounds j true)) a w := by
      intro n listed s a w hB h hs j hj
      simp only [ordW, Bool.not_false, Bool.true_or, Bool.true_and, Bool.and_eq_true, decide_eq_true_eq] at hB
      obtain ⟨hisz, hn, hx, hy⟩ := hB
      simp only [Dr.heads, List.mem_cons] at hj
      rcases hj with rfl | hj
      · have hil : j < all.length := by simpa using hisz
        have hpk : pick all [j] = [all[j]] := by simp [pick, List.getD_eq_getElem?_getD, List.getElem?_eq_getElem hil]
        have h3 := h.1
        rw [hpk] at h3
        obtain ⟨hp, hs⟩ := hs
        have := alist_cons (Q := Q) (next := wpAny P .any all.toArray Q (n - 1) (listed.setIfInBounds j true)) ht he (fun _ _ h => (andL_iff.1 h).1) h3 hs (fun s' obs' a' w' hp' g1 g2 _ => ihx.1 _ _ s' a' w' hx (andL_iff.1 g1).2 ⟨hp', g2⟩)
        unfold wpOp
        simp only [List.getElem?_toArray, List.getElem?_eq_getElem hil]
        split
        · rename_i hw; rw [if_pos hw] at this; exact .inl this
        · rename_i hw; rw [if_neg hw] at this; exact this
      · exact ihy.2 n listed s a w hy (altR_out h.2 fun e => by rw [e] at hj; cases hj) hs j hj
    refine ⟨fun n listed s a w hB h hs => ?_, key⟩
    have hB' := hB
    simp only [ordW, Bool.not_true, Bool.false_or, Bool.and_eq_true, decide_eq_true_eq, Bool.not_eq_true'] at hB
    obtain ⟨⟨hne, hall⟩, _, hn, _⟩ := hB
    have hBf : ordW all.toArray (.alt i x y) false listed n = true := by
      simp only [ordW, Bool.and_eq_true] at hB' ⊢
      exact ⟨by simp, hB'.2⟩
    obtain ⟨m, rfl⟩ : ∃ m, n = m + 1 := ⟨n - 1, by omega⟩
    refine ⟨fun h0 => (by rw [h0] at hne; cases hne), fun j hj => ?_⟩
    have hjh : j ∈ (Dr.alt i x y).heads := by
      have := List.all_eq_true.1 hall j hj
      simpa [Dr.heads] using this
    exact key (m + 1) listed s a w hBf h hs j hjh
theorem awp_ok (ht : TabOk P tb) (he : EqOk P tb) (hm : P.follows .mixedOrders = true) {ps : Pis} : ∀ {c : Code} {s : St} {Q : Exit → St → Prop} {a : Act} {w : World}, awp std (mkX P B fin) tb ps c s Q → Sat B s a w → regsB ps c = true → Both P c (lift B Q) a w := by
  intro c
  induction c with
  | skip => intro s Q a w h hs _; exact both_skip ⟨s, hs, h⟩
  | seq x y ihx ihy =>
    intro s Q a w h hs hr
    simp only [regsB, Bool.and_eq_true] at hr
    refine both_seq (both_mono (ihx h hs hr.1) fun e a w hq => ?_)
    obtain ⟨s', hs', hq⟩ := hq
    cases e with
    | normal => exact ihy hq hs' hr.2
    | exit id => exact ⟨s', hs', hq⟩
    | goto l => exact ⟨s', hs', hq⟩
    | ret => exact ⟨s', hs', hq⟩
    | panic c => exact ⟨s', hs', hq⟩
    | outgrown => exact ⟨s', hs', hq⟩
  | cond c x y ihx ihy =>
    intro s Q a w h hs hr
    simp only [regsB, Bool.and_eq_true] at hr
    unfold awp at h
    split at h
    · rename_i t hc
      obtain ⟨hp, hs1⟩ := hs
      have e1 := bool_val (ev_c hs1.fr hc)
      rcases cnd_or h with ⟨rfl, h⟩ | ⟨rfl, h⟩
      · exact both_cond_true e1 (ihx h ⟨hp, hs1⟩ hr.1)
      · exact both_cond_false e1 (ihy h ⟨hp, hs1⟩ hr.2)
    · exact h.elim
  | block id b ih =>
    intro s Q a w h hs hr
    refine both_block (both_mono (ih h hs hr) fun e a w hq => ?_)
    obtain ⟨s', hs', hq⟩ := hq
    cases e with
    | normal => exact ⟨s', hs', hq⟩
    | exit i =>
      simp only [Exit.inBlock]
      have hq1 : Q (bif Nat.beq i id then .normal else .exit i) s' := hq
      cases hb : Nat.beq i id with
      | true =>
        rw [hb] at hq1
        rw [if_pos (Nat.eq_of_beq_eq_true hb)]
        exact ⟨s', hs', hq1⟩
      | false =>
        rw [hb] at hq1
        rw [if_neg (Nat.ne_of_beq_eq_false hb)]
        exact ⟨s', hs', hq1⟩
    | goto l => exact ⟨s', hs', hq⟩
    | ret => exact ⟨s', hs', hq⟩
    | panic c => exact ⟨s', hs', hq⟩
    | outgrown => exact ⟨s', hs', hq⟩
  | loop b ih => intro s Q a w h hs _; exact h a w hs
  | rangeFunc g ps asg b => intro s Q a w h hs _; exact ⟨h a w hs, fun h => by cases h⟩
  | exit id => intro s Q a w h hs _; exact both_exit ⟨s, hs, h⟩
  | ret => intro s Q a w h hs _; exact both_ret ⟨s, hs, h⟩
  | region id ops draw =>
    intro s Q a w h hs hr
    simp only [regsB, Bool.and_eq_true] at hr
    have hK : ∀ (s : St) obs, andL obs (Q .normal s) → All obs := fun s obs h => (andL_iff.1 h).1
    have hQ : ∀ (s : St) obs a w, andL obs (Q .normal s) → Sat B s a w → lift B Q .normal a w := fun s obs a w h hs => ⟨s, hs, (andL_iff.1 h).2⟩
    cases draw with
    | false =>
      have h' : alist std (mkX P B fin) tb none ops.toList ops.toList ⟨s.fr, frzL tb s.fr ops.toList ops.toList s.hp⟩ [] (regQ Q) := h
      have := alist_ok (Q := lift B Q) ht he hK hQ h' (frz_sat hs)
      exact both_region_list hr.1 (by simpa using this)
    | true =>
      unfold awp at h
      obtain ⟨hn, hr⟩ := hr
      cases hp : getPi ps id with
      | none => simp only [hp] at h
      | some x =>
        obtain ⟨π, lt⟩ := x
        simp only [hp] at h hr
        simp only [regB] at hr
        cases ho : isO π with
        | some d' =>
          rw [ho] at h hr
          obtain ⟨l, rfl⟩ : ∃ l : List Oper, ops = l.toArray := ⟨ops.toList, by simp⟩
          obtain ⟨hp2, hs2⟩ := frz_sat (tb := tb) (all := l) hs
          have hbw : Below w.heap.size w w.drew := (Below.refl _ _).drew
          exact both_region_any hn hm ((awO_ok ht he (K := Q .normal) (Q := lift B Q) (fun s' a' w' e hs => ⟨s', hs, e⟩) d').1 _ _ _ a _ hr h ⟨hp2, ⟨hs2.ck, hs2.fr, hs2.sz, hs2.nd, hs2.pre, hs2.ok.later hbw⟩⟩)
        | none =>
          rw [ho] at h hr
          simp only at h hr
          cases hx : isX π with
          | false =>
            rw [hx] at h hr
            exact draw_ok (K := nrmQ π ops.toList Q) ht he hm hn hr (fun s obs h => (andL_iff.1 h).1) (fun s obs a w h hs => ⟨_, nrmI_ok hs, stpQ_imp (andL_iff.1 h).2⟩) h (frz_sat hs)
          | true =>
            rw [hx] at h hr
            simp only [Bool.and_eq_true] at hr
            simp only at h
            split at h
            · split at h
              · rename_i hc
                exact drawx_ok ht he hm hn hr.1 hr.2 hK hQ hc h (frz_sat hs)
              · exact h.elim
            · exact h.elim
  | label _ => intro s Q a w h hs _; exact both_label ⟨s, hs, h⟩
  | goto _ => intro s Q a w h; exact h.elim
  | refuse _ => intro s Q a w h; exact h.elim
  | scope b ih =>
    intro s Q a w h hs hr
    refine both_scope_straight (both_mono (ih h hs hr) fun e a w hq => ?_)
    obtain ⟨s', hs', hq⟩ := hq
    cases e with
    | normal => exact ⟨s', hs', hq⟩
    | exit id => exact ⟨s', hs', hq⟩
    | goto l => exact hq.elim
    | ret => exact ⟨s', hs', hq⟩
    | panic c => exact ⟨s', hs', hq⟩
    | outgrown => exact ⟨s', hs', hq⟩

/-! a state seen as another one, its blocks numbered anew -/
def renI (m : List Nat) (j : Nat) : Nat := m.getD j 1000000
def renC (m : List Nat) : Ce → Ce
  | .ptr i o => .ptr (renI m i) o
  | .ept i k f => .ept (renI m i) k f
  | .sl i => .sl (renI m i)
  | .asl i n => .asl (renI m i) n
  | .fn f l => .fn f (l.map (renI m))
  | .mpt i k => .mpt (renI m i) k
  | .rw i k => .rw (renI m i) k
  | .rpt i k j => .rpt (renI m i) k j
  | c => c
def renT (m : List Nat) : TE → TE
  | .one c => .one (renC m c)
  | .many l => .many (l.map (renC m))
def renA (m : List Nat) : AV → AV
  | .c x => .c (renC m x)
  | .agg l => .agg (l.map (renC m))
  | .tup l => .tup (l.map (renT m))
  | .junk => .junk
def renK (m : List Nat) : Ck → Ck
  | .blk T cs => .blk T (cs.map (renC m))
  | .ro T cs => .ro T (cs.map (renC m))
  | c => c
def wkFr (m : List Nat) : List AV → List AV → Prop
  | _, [] => True
  | [], _ :: _ => False
  | v :: l, v' :: l' => match v' with
    | .junk => wkFr m l l'
    | v' => v = renA m v' ∧ wkFr m l l'
def wkHp (m : List Nat) (hp : List Ck) : List Nat → List Ck → Prop
  | [], [] => True
  | i :: is, c :: cs => Nat.blt i hp.length = true ∧ (nthCk hp i = renK m c ∧ wkHp m hp is cs)
  | _, _ => False
def nodupB : List Nat → Bool
  | [] => true
  | x :: l => !l.contains x && nodupB l

theorem wkHp_len {m : List Nat} {hp : List Ck} : ∀ {is : List Nat} {cs : List Ck}, wkHp m hp is cs → is.length = cs.length := by
  intro is
  induction is with
  | nil => intro cs h; cases cs with
    | nil => rfl
    | cons => exact h.elim
  | cons i is ih => intro cs h; cases cs with
    | nil => exact h.elim
    | cons c cs => simp [ih h.2.2]
theorem wkHp_at {m : List Nat} {hp : List Ck} : ∀ {is : List Nat} {cs : List Ck}, wkHp m hp is cs → ∀ (j : Nat) i, is[j]? = some i → ∃ c, cs[j]? = some c ∧ i < hp.length ∧ hp[i]? = some (renK m c) := by
  intro is
  induction is with
  | nil => intro cs _ j i h; simp at h
  | cons i0 is ih =>
    intro cs h j i hj
    cases cs with
    | nil => exact h.elim
    | cons c cs =>
      cases j with
      | zero =>
        simp at hj
        subst hj
        have h1 : i0 < hp.length := Nat.le_of_ble_eq_true h.1
        refine ⟨c, rfl, h1, ?_⟩
        have := h.2.1
        rw [nthCk_eq, List.getD_eq_getElem?_getD, List.getElem?_eq_getElem h1] at this
        rw [List.getElem?_eq_getElem h1]
        simpa using this
      | succ j => exact ih h.2.2 j i (by simpa using hj)
theorem wkFr_at {m : List Nat} : ∀ {l l' : List AV}, wkFr m l l' → ∀ t, nthA l' t = .junk ∨ nthA l t = renA m (nthA l' t) := by
  intro l
  induction l with
  | nil => intro l' h t; cases l' with
    | nil => exact .inl rfl
    | cons => exact h.elim
  | cons v l ih =>
    intro l' h t
    cases l' with
    | nil => exact .inl rfl
    | cons v' l' =>
      unfold wkFr at h
      cases t with
      | zero =>
        split at h
        · exact .inl rfl
        · exact .inr h.1
      | succ t =>
        split at h
        · exact ih h t
        · exact ih h.2 t
theorem nodupB_inj : ∀ {l : List Nat}, nodupB l = true → ∀ (i j : Nat) x, l[i]? = some x → l[j]? = some x → i = j := by
  intro l
  induction l with
  | nil => intro _ i j x h; simp at h
  | cons y l ih =>
    intro h i j x hi hj
    simp only [nodupB, Bool.and_eq_true, Bool.not_eq_true'] at h
    have hno : ∀ k, l[k]? = some y → False := fun k hk => by
      have : y ∈ l := List.mem_of_getElem? hk
      have h1 := h.1
      simp [this] at h1
    cases i with
    | zero =>
      cases j with
      | zero => rfl
      | succ j => simp at hi hj; subst hi; exact (hno j hj).elim
    | succ i =>
      cases j with
      | zero => simp at hi hj; subst hj; exact (hno i hi).elim
      | succ j => simp at hi hj; rw [ih h.2 i j x hi hj]

theorem wk_faces {m : List Nat} {hp hp2 : List Ch} (h2 : ∀ (j : Nat), hp2[j]? = (m[j]?).bind (hp[·]?)) : ∀ (j : Nat), (faces hp2)[j]? = if j < m.length then (faces hp)[renI m j]? else none := by
  intro j
  simp only [faces, List.getElem?_map, h2]
  cases hm : m[j]? with
  | none =>
    have : ¬ j < m.length := fun h => by rw [List.getElem?_eq_getElem h] at hm; cases hm
    simp [this]
  | some i =>
    have h3 : j < m.length := (List.getElem?_eq_some_iff.1 hm).1
    have h4 : renI m j = i := by simp [renI, List.getD_eq_getElem?_getD, hm]
    simp [h3, h4]
theorem wk_val {m : List Nat} {hp hp2 : List Ch} (hf : ∀ (j : Nat), (faces hp2)[j]? = if j < m.length then (faces hp)[renI m j]? else none) (hbig : hp.length ≤ 1000000) : ∀ c, Ce.val (faces hp2) c = Ce.val (faces hp) (renC m c) := by
  have hf' : ∀ j, (faces hp2)[j]? = (faces hp)[renI m j]? := fun j => by
    rw [hf]
    split
    · rfl
    · rename_i h
      have : renI m j = 1000000 := by simp [renI, List.getD_eq_getElem?_getD, List.getElem?_eq_none (Nat.le_of_not_lt h)]
      rw [this, List.getElem?_eq_none]
      simp [faces]; omega
  have hp1 : ∀ i j, ptrAt (faces hp2) i j = ptrAt (faces hp) (renI m i) j := fun i j => by unfold ptrAt; rw [hf']
  intro c
  cases c with
  | int k n => rfl
  | bool b => rfl
  | raw v => rfl
  | ptr i o => exact hp1 i o
  | ept i k f => simp only [Ce.val, renC, eptAt, hf']
  | sl i => simp only [Ce.val, renC, hf']
  | asl i n => simp only [Ce.val, renC, hf']
  | fn f l => simp only [Ce.val, renC, List.map_map]; congr 1; simp [hp1, Function.comp_def]
  | mpt i k => exact hp1 i k
  | rw i k => simp only [Ce.val, renC, rowAt, hf']
  | rpt i k j => simp only [Ce.val, renC, rptAt, rowAt, hf']
theorem wk_aval {m : List Nat} {hp hp2 : List Ch} (hc : ∀ c, Ce.val (faces hp2) c = Ce.val (faces hp) (renC m c)) : ∀ v, AV.val (faces hp2) v = AV.val (faces hp) (renA m v) := by
  have hv : ∀ l, vals (faces hp2) l = vals (faces hp) (l.map (renC m)) := fun l => by unfold vals; rw [List.map_map]; congr 1; exact List.map_congr_left fun c _ => hc c
  have ht : ∀ t, TE.val (faces hp2) t = TE.val (faces hp) (renT m t) := fun t => by
    cases t with
    | one c => exact hc c
    | many l => simp only [TE.val, renT, hv]
  intro v
  cases v with
  | c x => exact hc x
  | agg l => simp only [AV.val, renA, hv]
  | tup l =>
    simp only [AV.val, renA, List.map_map]
    have : l.map (TE.val (faces hp2)) = l.map (TE.val (faces hp) ∘ renT m) := List.map_congr_left fun t _ => ht t
    rw [this]
  | junk => rfl

/-- blocks numbered anew -/
theorem weak_hp {W w : World} {hp : List Ch} {ck ck' : List Ck} (m : List Nat) (hck : hp.map Ch.ck = ck) (hok : HOk W hp w) (hhp : wkHp m ck m ck') (hnd : nodupB m = true) (hbig : ck.length ≤ 1000000) :
    ∃ hp3 : List Ch, hp3.map Ch.ck = ck' ∧ (∀ v, AV.val (faces hp3) v = AV.val (faces hp) (renA m v)) ∧ (∀ (j : Nat), (faces hp3)[j]? = if j < m.length then (faces hp)[renI m j]? else none) ∧ HOk W hp3 w ∧
      ∀ (j : Nat) d3, hp3[j]? = some d3 → ∃ i d, m[j]? = some i ∧ hp[i]? = some d ∧ (∀ b, d3.touch b ↔ d.touch b) ∧ d3.wr = d.wr ∧ (∀ q A c e l, d3 = .arr q A c e l → d = .arr q A c e l) ∧ (∀ q A c rs ll, d3 = .mat q A c rs ll → d = .mat q A c rs ll) := by
  have hl : hp.length = ck.length := by rw [← hck, List.length_map]
  have hmi : ∀ (j : Nat) i, m[j]? = some i → i < hp.length := fun j i hj => by obtain ⟨c, _, h, _⟩ := wkHp_at hhp j i hj; omega
  obtain ⟨hp2, h2⟩ : ∃ hp2 : List Ch, ∀ (j : Nat), hp2[j]? = (m[j]?).bind (hp[·]?) := by
    refine ⟨m.map fun i => hp.getD i (.gone ⟨none, 0, 0, 1, []⟩), fun j => ?_⟩
    rw [List.getElem?_map]
    cases hm : m[j]? with
    | none => rfl
    | some i => simp [List.getElem?_eq_getElem (hmi j i hm)]
  have hf := wk_faces h2
  have hv := wk_val hf (by omega)
  have hva := wk_aval hv
  have hvv : ∀ l, vals (faces hp2) l = vals (faces hp) (l.map (renC m)) := fun l => by unfold vals; rw [List.map_map]; congr 1; exact List.map_congr_left fun c _ => hv c
  have key : ∀ (j : Nat) d, hp2[j]? = some d → ∃ i c, m[j]? = some i ∧ hp[i]? = some d ∧ ck'[j]? = some c ∧ d.ck = renK m c := fun j d hd => by
    rw [h2] at hd
    cases hm : m[j]? with
    | none => rw [hm] at hd; cases hd
    | some i =>
      rw [hm] at hd
      obtain ⟨c, h3, _, h5⟩ := wkHp_at hhp j i hm
      refine ⟨i, c, rfl, hd, h3, ?_⟩
      rw [← hck, List.getElem?_map] at h5
      have hd' : hp[i]? = some d := hd
      rw [hd'] at h5
      simpa using h5
  -- the blocks, their cells named anew
  obtain ⟨hp3, h3⟩ : ∃ hp3 : List Ch, ∀ (j : Nat), hp3[j]? = (hp2[j]?).bind fun d => (ck'[j]?).map fun c => match d, c with
      | .blk g _ _, .blk T cs => .blk g T cs
      | .ro g _ _, .ro T cs => .ro g T cs
      | d, _ => d := by
    refine ⟨(List.range hp2.length).map fun j => match hp2.getD j (.gone ⟨none, 0, 0, 1, []⟩), ck'.getD j .gone with
      | .blk g _ _, .blk T cs => .blk g T cs
      | .ro g _ _, .ro T cs => .ro g T cs
      | d, _ => d, fun j => ?_⟩
    rw [List.getElem?_map]
    rcases Nat.lt_or_ge j hp2.length with hj | hj
    · obtain ⟨i, c, _, _, h6, _⟩ := key j _ (List.getElem?_eq_getElem hj)
      rw [List.getElem?_range hj, List.getElem?_eq_getElem hj, h6]
      simp [hj, h6]
    · rw [List.getElem?_eq_none (by simpa using hj), List.getElem?_eq_none hj]; rfl
  have key3 : ∀ (j : Nat) d3, hp3[j]? = some d3 → ∃ i d c, m[j]? = some i ∧ hp[i]? = some d ∧ ck'[j]? = some c ∧ d3.face = d.face ∧ d3.ck = c ∧ (∀ b, d3.touch b ↔ d.touch b) ∧ d3.wr = d.wr ∧ (∀ w fs', (∀ l, vals fs' l = vals (faces hp) (l.map (renC m))) → ChOk W w (faces hp) d → ChOk W w fs' d3) := by
    intro j d3 hj
    rw [h3] at hj
    cases hd : hp2[j]? with
    | none => rw [hd] at hj; cases hj
    | some d =>
      rw [hd] at hj
      obtain ⟨i, c, h4, h5, h6, h7⟩ := key j d hd
      rw [h6] at hj
      simp only [Option.bind_some, Option.map_some, Option.some.injEq] at hj
      refine ⟨i, d, c, h4, h5, h6, ?_⟩
      cases d with
      | blk g T cs =>
        cases c with
        | blk T' cs' =>
          simp only [renK, Ch.ck, Ck.blk.injEq] at h7
          obtain ⟨rfl, rfl⟩ := h7
          subst hj
          refine ⟨rfl, rfl, fun b => Iff.rfl, rfl, fun w fs' hfs ⟨vs, g1, g2⟩ => ⟨vs, ?_, g2⟩⟩
          rw [hfs]; exact g1
        | _ => cases h7
      | ro g T cs =>
        cases c with
        | ro T' cs' =>
          simp only [renK, Ch.ck, Ck.ro.injEq] at h7
          obtain ⟨rfl, rfl⟩ := h7
          subst hj
          refine ⟨rfl, rfl, fun b => by simp [Ch.touch], rfl, fun w fs' hfs ⟨vs, g1, g2⟩ => ⟨vs, ?_, g2⟩⟩
          rw [hfs]; exact g1
        | _ => cases h7
      | arr q A cp e l => cases c with
        | arr => subst hj; exact ⟨rfl, h7, fun b => Iff.rfl, rfl, fun w fs' _ h => h⟩
        | _ => cases h7
      | own A cp T e l => cases c with
        | own => subst hj; exact ⟨rfl, h7, fun b => Iff.rfl, rfl, fun w fs' _ h => h⟩
        | _ => cases h7
      | gone f => cases c with
        | gone => subst hj; exact ⟨rfl, h7, fun b => Iff.rfl, rfl, fun w fs' _ h => h⟩
        | _ => cases h7
      | ful A e l => cases c with
        | ful => subst hj; exact ⟨rfl, h7, fun b => Iff.rfl, rfl, fun w fs' _ h => h⟩
        | _ => cases h7
      | keep l => cases c with
        | keep => subst hj; exact ⟨rfl, h7, fun b => Iff.rfl, rfl, fun w fs' _ h => h⟩
        | _ => cases h7
      | mat q A cp rs ll => cases c with
        | mat => subst hj; exact ⟨rfl, h7, fun b => Iff.rfl, rfl, fun w fs' _ h => h⟩
        | _ => cases h7
      | mtw A cp T U rs ll => cases c with
        | mtw => subst hj; exact ⟨rfl, h7, fun b => Iff.rfl, rfl, fun w fs' _ h => h⟩
        | _ => cases h7
  have hl3 : ∀ (j : Nat), (hp3[j]?).map Ch.face = (hp2[j]?).map Ch.face := fun j => by
    cases hd : hp2[j]? with
    | none => rw [h3, hd]; rfl
    | some d =>
      obtain ⟨i, c, h4, h5, h6, h7⟩ := key j d hd
      rw [h3, hd, h6]
      cases d <;> cases c <;> rfl
  have hfaces : faces hp3 = faces hp2 := List.ext_getElem? fun j => by simp only [faces, List.getElem?_map]; exact hl3 j
  refine ⟨hp3, ?_, fun v => by rw [hfaces]; exact hva v, fun j => by rw [hfaces]; exact hf j, ?_, fun j d3 hj => ?_⟩
  · refine List.ext_getElem? fun j => ?_
    rw [List.getElem?_map]
    cases hd : hp3[j]? with
    | none =>
      rw [h3] at hd
      cases hd2 : hp2[j]? with
      | none =>
        rw [h2] at hd2
        have hml := wkHp_len hhp
        have : m[j]? = none := by
          cases hm : m[j]? with
          | none => rfl
          | some i => rw [hm] at hd2; have := hmi j i hm; simp at hd2; omega
        have : ck'.length ≤ j := by
          rw [List.getElem?_eq_none_iff] at this; omega
        rw [List.getElem?_eq_none this]; rfl
      | some d =>
        obtain ⟨i, c, _, _, h6, _⟩ := key j d hd2
        rw [hd2, h6] at hd; simp at hd
    | some d3 =>
      obtain ⟨i, d, c, _, _, h6, _, h7, _⟩ := key3 j d3 hd
      rw [h6, ← h7]; rfl
  · refine ⟨hok.bel, fun j d3 hj => ?_, fun j k d e hjk hj hk hw b h4 h5 => ?_⟩
    · obtain ⟨i, d, c, h4, h5, _, _, _, _, _, h9⟩ := key3 j d3 hj
      rw [hfaces]
      exact h9 w _ hvv (hok.ok i d h5)
    · obtain ⟨i, d', c, g1, g2, _, _, _, g6, g7, _⟩ := key3 j d hj
      obtain ⟨i2, e', c2, k1, k2, _, _, _, k6, k7, _⟩ := key3 k e hk
      have hne : i ≠ i2 := fun e => hjk (nodupB_inj hnd j k i g1 (by rw [e]; exact k1))
      exact hok.sep i i2 d' e' hne g2 k2 (by rw [← g7]; exact hw) b ((g6 b).1 h4) ((k6 b).1 h5)
  · obtain ⟨i, d, c, g1, g2, _, _, _, g6, g7, _⟩ := key3 j d3 hj
    refine ⟨i, d, g1, g2, g6, g7, fun q A cp e l hd3 => ?_, fun q A cp rs ll hd3 => ?_⟩
    · subst hd3
      rw [h3] at hj
      cases hd2 : hp2[j]? with
      | none => rw [hd2] at hj; cases hj
      | some d2 =>
        obtain ⟨i2, c2, k1, k2, k3, _⟩ := key j d2 hd2
        rw [g1] at k1
        injection k1 with k1
        subst k1
        rw [g2] at k2
        injection k2 with k2
        subst k2
        rw [hd2, k3] at hj
        simp only [Option.bind_some, Option.map_some, Option.some.injEq] at hj
        revert hj
        cases d <;> cases c2 <;> simp
        all_goals (intros; simp_all)
    · subst hd3
      rw [h3] at hj
      cases hd2 : hp2[j]? with
      | none => rw [hd2] at hj; cases hj
      | some d2 =>
        obtain ⟨i2, c2, k1, k2, k3, _⟩ := key j d2 hd2
        rw [g1] at k1
        injection k1 with k1
        subst k1
        rw [g2] at k2
        injection k2 with k2
        subst k2
        rw [hd2, k3] at hj
        simp only [Option.bind_some, Option.map_some, Option.some.injEq] at hj
        revert hj
        cases d <;> cases c2 <;> simp
        all_goals (intros; simp_all)

theorem weak_ok {s s' : St} (m : List Nat) (hfr : wkFr m s.fr s'.fr) (hhp : wkHp m s.hp m s'.hp) (hnd : nodupB m = true) (hlen : s'.fr.length ≤ s.fr.length) (hbig : s.hp.length ≤ 1000000) (hpre : ∀ (j : Nat) f, B.F[j]? = some f → m[j]? = some j) : ∀ a w, Sat B s a w → Sat B s' a w := by
  rintro a w ⟨hp, hs⟩
  obtain ⟨hp3, h1, h2, h3, h4, _⟩ := weak_hp m hs.ck hs.ok hhp hnd hbig
  have hpre3 : FsLe B.F (faces hp3) := fun j f hj => by
    have h5 := hpre j f hj
    rw [h3, if_pos (List.getElem?_eq_some_iff.1 h5).1]
    have : renI m j = j := by simp [renI, List.getD_eq_getElem?_getD, h5]
    rw [this]
    exact hs.pre j f hj
  refine ⟨hp3, ⟨h1, fun t => ?_, Nat.le_trans hlen hs.sz, hs.nd, hpre3, h4⟩⟩
  rcases wkFr_at hfr t with h | h
  · exact .inl h
  · have h1 := hs.fr t
    rw [h] at h1
    rcases h1 with h1 | h1
    · left
      cases hv' : nthA s'.fr t with
      | junk => rfl
      | c x => rw [hv'] at h1; cases h1
      | agg l => rw [hv'] at h1; cases h1
      | tup l => rw [hv'] at h1; cases h1
    · right; rw [h2]; exact h1

/-! loops -/
theorem loop_ok (ht : TabOk P tb) (he : EqOk P tb) (hm : P.follows .mixedOrders = true) (ps : Pis) {b : Code} {Q : Exit → St → Prop} {ι : Type} (S : ι → St) (μ : ι → Nat) (x0 : ι) (h0 : ∀ a w, Sat B s a w → Sat B (S x0) a w) (hr : regsB ps b = true) {Q' : ι → Exit → St → Prop}
    (hb : ∀ x, awp std (mkX P B fin) tb ps b (S x) (Q' x)) (hQ : ∀ x e s', Q' x e s' → match e with
      | .normal => ∃ x', (∀ a w, Sat B s' a w → Sat B (S x') a w) ∧ μ x' < μ x
      | e => Q e s') : semLoop P B b s Q := by
  intro a w hs
  refine both_loop_ghost (fun n a w => ∃ x, μ x = n ∧ Sat B (S x) a w) (μ x0) ⟨x0, rfl, h0 a w hs⟩ ?_
  rintro n a w ⟨x, rfl, hx⟩
  refine both_mono (awp_ok ht he hm (hb x) hx hr) fun e a w hq => ?_
  obtain ⟨s', hs', hq⟩ := hq
  have hq := hQ x e s' hq
  cases e with
  | normal => obtain ⟨x', h1, h2⟩ := hq; exact ⟨μ x', h2, x', rfl, h1 a w hs'⟩
  | exit id => exact ⟨s', hs', hq⟩
  | goto l => exact ⟨s', hs', hq⟩
  | ret => exact ⟨s', hs', hq⟩
  | panic c => exact ⟨s', hs', hq⟩
  | outgrown => exact ⟨s', hs', hq⟩

/-! a call -/
def resA (O : Ops) (tb : Tab) (fr : List AV) (hp : List Ck) : List ResultVar → Option (List TE)
  | [] => some []
  | .tmp t :: r => match nthA fr t, resA O tb fr hp r with
    | .c x, some l => some (.one x :: l)
    | .agg cs, some l => some (.many cs :: l)
    | _, _ => none
  | .cell p T :: r => match ld O tb hp T (nthA fr p), resA O tb fr hp r with
    | some (.c x, []), some l => some (.one x :: l)
    | some (.agg cs, []), some l => some (.many cs :: l)
    | _, _ => none
def finQ (O : Ops) (X : Cx) (tb : Tab) (rs : List ResultVar) (e : Exit) (s : St) : Prop :=
  match s with
  | ⟨fr, hp⟩ => match e with
    | .ret => match resA O tb fr hp rs with
      | some l => X .fin l hp
      | none => False
    | .normal => match resA O tb fr hp rs with
      | some l => X .fin l hp
      | none => False
    | _ => False
def retv : List Value → Value
  | [v] => v
  | l => .tuple l.toArray
def semFin (B : Bs) (R : Ending → World → Prop) (l : List TE) (ck : List Ck) : Prop :=
  ∀ hp w, hp.map Ch.ck = ck → FsLe B.F (faces hp) → HOk B.w hp w → ∀ vs, allv (l.map (TE.val (faces hp))) = some vs → R (.returned (retv vs)) w

def resOf (tmps : Array Value) : ResultVar → Sem Value
  | .tmp t => pure (tmps.getD t undef)
  | .cell p t => do loadVar t (← asAddr (tmps.getD p undef))
theorem resA_ok (ht : TabOk P tb) (hs : SatH B hp s a w) : ∀ {rs : List ResultVar} {l : List TE}, resA std tb s.fr s.hp rs = some l →
    ∃ vs, allv (l.map (TE.val (faces hp))) = some vs ∧ (rs.mapM (resOf a.tmps)).run P w = .ok vs w := by
  intro rs
  induction rs with
  | nil => intro l h; simp [resA] at h; subst h; exact ⟨[], rfl, by simp⟩
  | cons r rs ih =>
    intro l h
    cases r with
    | tmp t =>
      unfold resA at h
      have h1 := hs.fr t
      split at h
      · rename_i x l' hx hl
        injection h with h
        subst h
        obtain ⟨vs, g1, g2⟩ := ih hl
        rw [hx] at h1
        have h2 := h1.resolve_left (by simp)
        simp only [AV.val] at h2
        refine ⟨a.tmps.getD t undef :: vs, by simp only [List.map_cons, TE.val, h2, allv, g1], ?_⟩
        rw [List.mapM_cons]
        simp only [resOf, Sem.run_bind, Sem.run_pure, Result.andThen_ok, g2]
      · rename_i x l' hx hl
        injection h with h
        subst h
        obtain ⟨vs, g1, g2⟩ := ih hl
        rw [hx] at h1
        have h2 := h1.resolve_left (by simp)
        simp only [AV.val] at h2
        refine ⟨a.tmps.getD t undef :: vs, by simp only [List.map_cons, TE.val, h2, allv, g1], ?_⟩
        rw [List.mapM_cons]
        simp only [resOf, Sem.run_bind, Sem.run_pure, Result.andThen_ok, g2]
      · cases h
    | cell p T =>
      unfold resA at h
      have hld : ∀ v, ld std tb s.hp T (nthA s.fr p) = some (v, []) → ∃ u, v.rel (faces hp) u ∧ ((do loadVar T (← asAddr (a.tmps.getD p undef))) : Sem Value).run P w = .ok u w := by
        intro v hv
        obtain ⟨u, hu, hr⟩ := ld_ok (o := { dst := none, op := .load T (.tmp p), type := 0, pos := "", after := #[], guard := none }) (x := .tmp p) ht hs.fr rfl (fun i _ c hc => hs.ok.ok i c hc) (by rw [hs.ck]; exact hv) (obs := []) trivial
        refine ⟨u, hr, ?_⟩
        have hptr : ∃ ad, a.tmps.getD p undef = .pointer (some ad) := by
          have h1 := hs.fr p
          unfold ld at hv
          split at hv
          · rename_i i j hx
            rw [hx] at h1
            exact ptrAt_form (h1.resolve_left (by simp))
          · rename_i i k f hx
            rw [hx] at h1
            exact eptAt_form (h1.resolve_left (by simp))
          · cases hv
        obtain ⟨ad, had⟩ := hptr
        simp only [execOp, Act.eval, had, Instr.loadAt, Instr.sureAddr, Sem.run_bind, Sem.run_pure, Result.andThen_ok] at hu
        simp only [had, asAddr, Sem.run_bind, Sem.run_pure, Result.andThen_ok]
        cases hq : (loadVar T ad).run P w with
        | ok u' w' =>
          rw [hq] at hu
          simp only [Result.andThen_ok] at hu
          injection hu with e1 e2
          injection e1 with e1
          rw [e1, e2]
        | halt x w' => rw [hq] at hu; simp at hu
      split at h
      · rename_i x l' hx hl
        injection h with h
        subst h
        obtain ⟨vs, g1, g2⟩ := ih hl
        obtain ⟨u, hr, hrun⟩ := hld _ hx
        have h2 := hr.resolve_left (by simp)
        simp only [AV.val] at h2
        refine ⟨u :: vs, by simp [allv, TE.val, h2, g1], ?_⟩
        rw [List.mapM_cons]
        simp only [resOf, Sem.run_bind, Sem.run_pure] at hrun ⊢
        rw [hrun]
        simp only [Result.andThen_ok, g2]
      · rename_i x l' hx hl
        injection h with h
        subst h
        obtain ⟨vs, g1, g2⟩ := ih hl
        obtain ⟨u, hr, hrun⟩ := hld _ hx
        have h2 := hr.resolve_left (by simp)
        simp only [AV.val] at h2
        refine ⟨u :: vs, by simp only [List.map_cons, TE.val, h2, allv, g1], ?_⟩
        rw [List.mapM_cons]
        simp only [resOf, Sem.run_bind, Sem.run_pure] at hrun ⊢
        rw [hrun]
        simp only [Result.andThen_ok, g2]
      · cases h

def startS (n : Nat) (args : List AV) (hp : List Ck) : St := ⟨appA args (List.replicate (n - args.length) undefA), hp⟩
def bodyOf (f : Func) : Code := match f.body with
  | some c => c
  | none => .skip
theorem appA_eq : ∀ (l l' : List AV), appA l l' = l ++ l' := by
  intro l; induction l with
  | nil => intro l'; rfl
  | cons x l ih => intro l'; simp [appA, ih]
theorem nthA_app : ∀ (l l' : List AV) (t : Nat), nthA (l ++ l') t = if t < l.length then nthA l t else nthA l' (t - l.length) := by
  intro l
  induction l with
  | nil => intro l' t; simp
  | cons x l ih => intro l' t; cases t <;> simp [nthA, ih]
theorem nthA_eq : ∀ (l : List AV) (t : Nat), nthA l t = l.getD t .junk := by
  intro l; induction l with
  | nil => intro t; rfl
  | cons x l ih => intro t; cases t <;> simp [nthA, ih]

theorem calls_run {f : FuncId} {fn : Func} {R : Ending → World → Prop} (ht : TabOk P tb) (he : EqOk P tb) (hm : P.follows .mixedOrders = true) (ps : Pis) (hf : P.funcs[f]? = some fn) (hb : fn.body.isSome = true) (hr : regsB ps (bodyOf fn) = true)
    (avs : List AV) (hp : List Ch) {W : World} {args : Array Value} (hh : HOk W hp w) (hargs : allv (avs.map (AV.val (faces hp))) = some args.toList)
    (h : awp std (mkX P ⟨W, faces hp, []⟩ (semFin ⟨W, faces hp, []⟩ R)) tb ps (bodyOf fn) (startS fn.ntmps avs (hp.map Ch.ck)) (finQ std (mkX P ⟨W, faces hp, []⟩ (semFin ⟨W, faces hp, []⟩ R)) tb fn.results.toList)) : Calls P f args w R := by
  cases hbody : fn.body with
  | none => rw [hbody] at hb; cases hb
  | some c =>
    have hc : bodyOf fn = c := by simp [bodyOf, hbody]
    rw [hc] at hr h
    refine calls_of_wp hf hbody ?_
    have hlen := allv_len hargs
    simp only [List.length_map, Array.length_toList] at hlen
    have hs : Sat ⟨W, faces hp, []⟩ (startS fn.ntmps avs (hp.map Ch.ck)) { tmps := args ++ Array.replicate (fn.ntmps - args.size) undef, defers := [] } w := by
      refine ⟨hp, rfl, fun t => ?_, ?_, rfl, FsLe.refl _, hh⟩
      · simp only [startS, appA_eq, nthA_app]
        split
        · rename_i hlt
          have h1 := allv_get hargs t
          rw [List.getElem?_map, List.getElem?_eq_getElem hlt, Option.map_some] at h1
          rw [nthA_eq, List.getD_eq_getElem?_getD, List.getElem?_eq_getElem hlt, Option.getD_some]
          right
          cases hv : args.toList[t]? with
          | none => rw [hv] at h1; cases h1
          | some v =>
            rw [hv] at h1
            simp only [Option.map_some, Option.some.injEq] at h1
            rw [Array.getD_eq_getD_getElem?, Array.getElem?_append_left (by omega)]
            rw [Array.getElem?_toList] at hv
            rw [hv]; exact h1
        · rename_i hge
          rw [nthA_eq, List.getD_eq_getElem?_getD, List.getElem?_replicate]
          split
          · rename_i hlt2
            right
            rw [Array.getD_eq_getD_getElem?, Array.getElem?_append_right (by omega), Array.getElem?_replicate, if_pos (by omega)]
            rfl
          · exact .inl rfl
      · simp only [startS, appA_eq, List.length_append, List.length_replicate, Array.size_append, Array.size_replicate]
        omega
    refine wp_mono (awp_ok ht he hm h hs hr).1 fun e a w' hq => ?_
    obtain ⟨s', ⟨hp', hs'⟩, hq⟩ := hq
    have key : (match resA std tb s'.fr s'.hp fn.results.toList with | some l => semFin ⟨W, faces hp, []⟩ R l s'.hp | none => False) → a.defers = [] ∧ ∃ v, (results fn a.tmps).run P w' = .ok v w' ∧ R (.returned v) w' := by
      intro hq
      split at hq
      · rename_i l hl
        obtain ⟨vs, g1, g2⟩ := resA_ok ht hs' hl
        refine ⟨hs'.nd, retv vs, ?_, hq hp' w' hs'.ck hs'.pre hs'.ok vs g1⟩
        have h3 : (results fn a.tmps).run P w' = .ok (if h : vs.toArray.size = 1 then vs.toArray[0] else .tuple vs.toArray) w' := by
          have h0 : results fn a.tmps = (do let vs ← fn.results.mapM (resOf a.tmps); pure (if h : vs.size = 1 then vs[0] else .tuple vs)) := by
            unfold results
            congr 1
          rw [h0, Array.mapM_eq_mapM_toList]
          simp only [Sem.run_bind, Sem.run_map, g2, Result.andThen_ok, Sem.run_pure]
        rw [h3]
        congr 1
        match vs with
        | [] => rfl
        | [v] => rfl
        | v :: v' :: r => simp [retv]
      · exact hq.elim
    cases e with
    | normal => exact key hq
    | ret => exact key hq
    | exit id => exact hq.elim
    | goto l => exact hq.elim
    | panic c => exact hq.elim
    | outgrown => exact hq.elim
end
end Go.Proofs.YtmnhfaaaaejpaaaGreat
