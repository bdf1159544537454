/-
  A symbolic run, for use: what a call leaves over its arguments' blocks; calls, loops, ends. No program here.
-/
import Derived.Test.YtmnhfaaaaejpaaaGreatSymRun
import Derived.WalkKit
namespace Go.Proofs.YtmnhfaaaaejpaaaGreat
open Go.RowKit

def retA : List TE → AV
  | [.one c] => .c c
  | [.many l] => .agg l
  | l => .tup l
theorem retA_val {fs : Faces} {l : List TE} {vs : List Value} (h : allv (l.map (TE.val fs)) = some vs) : (retA l).val fs = some (retv vs) := by
  match l with
  | [] => simp [allv] at h; subst h; rfl
  | [.one c] =>
    simp only [List.map_cons, List.map_nil, TE.val] at h
    cases hc : c.val fs with
    | none => rw [hc] at h; simp [allv] at h
    | some v => rw [hc] at h; simp [allv] at h; subst h; simpa [AV.val, retv, retA] using hc
  | [.many cs] =>
    simp only [List.map_cons, List.map_nil, TE.val] at h
    cases hc : vals fs cs with
    | none => rw [hc] at h; simp [allv] at h
    | some us => rw [hc] at h; simp [allv] at h; subst h; simp [AV.val, retv, retA, hc]
  | x :: y :: r =>
    have hr : retA (x :: y :: r) = .tup (x :: y :: r) := by cases x <;> rfl
    rw [hr]
    simp only [AV.val, h]
    have hl := allv_len h
    match vs, hl with
    | a :: b :: t, _ => rfl

/-- what a call leaves: a value over its arguments' blocks and new ones -/
def Post (w : World) (hp0 : List Ch) (R : AV → List Ck → Prop) (e : Ending) (w' : World) : Prop :=
  ∃ v cks hpn u, R v cks ∧ hpn.map Ch.ck = cks ∧ e = .returned u ∧ v.val (faces (hp0 ++ hpn)) = some u ∧ HOk w (hp0 ++ hpn) w' ∧ (∀ (j : Nat) c b, hpn[j]? = some c → c.touch b → w.heap.size ≤ b) ∧ hpn.length ≤ 800000
/-- what function f does, called with these values over these blocks -/
def Fn (P : Program) (f : FuncId) (avs : List AV) (cks0 : List Ck) (R : AV → List Ck → Prop) : Prop :=
  ∀ w hp0, hp0.map Ch.ck = cks0 → HOk w hp0 w → ∀ vs, allv (avs.map (AV.val (faces hp0))) = some vs → Calls P f vs.toArray w (Post w hp0 R)

def freshK : Ck → Bool
  | .arr q _ _ => q
  | .ro .. => false
  | .ful .. => false
  | .keep .. => false
  | .mat q _ => q
  | _ => true
def takeK : List Ck → Nat → List Ck
  | _, 0 => []
  | [], _ + 1 => []
  | c :: l, n + 1 => c :: takeK l n
theorem takeK_eq : ∀ (l : List Ck) (n : Nat), takeK l n = l.take n := by
  intro l
  induction l with
  | nil => intro n; cases n <;> rfl
  | cons c l ih => intro n; cases n <;> simp [takeK, ih]
def iota : Nat → Nat → List Nat
  | _, 0 => []
  | a, n + 1 => a :: iota (a + 1) n
theorem iota_at : ∀ (n a j : Nat), (iota a n)[j]? = if j < n then some (a + j) else none := by
  intro n
  induction n with
  | zero => intro a j; simp [iota]
  | succ n ih =>
    intro a j
    cases j with
    | zero => simp [iota]
    | succ j => simp only [iota, List.getElem?_cons_succ, ih]; by_cases h : j < n <;> simp [h]; omega
theorem iota_len (a n : Nat) : (iota a n).length = n := by
  induction n generalizing a with
  | zero => rfl
  | succ n ih => simp [iota, ih]

/-- the end of a call: its value over the last state's blocks, the new ones by their places -/
def Ended (n0 : Nat) (R : AV → List Ck → Prop) (l : List TE) (ck : List Ck) : Prop :=
  ∃ (ms : List Nat) (v : AV) (cks : List Ck), R v cks ∧ Nat.ble cks.length 1000 = true ∧ retA l = renA (iota 0 n0 ++ ms) v ∧ nodupB (iota 0 n0 ++ ms) = true ∧ cks.all freshK = true ∧ wkHp (iota 0 n0 ++ ms) ck (iota 0 n0 ++ ms) (takeK ck n0 ++ cks)

theorem HOk.union {B w w' : World} {hp hpn : List Ch} (h : HOk B hp w) (hb : Below w.heap.size w w') (hn : ∀ (j : Nat) c, hpn[j]? = some c → ChOk B w' (faces (hp ++ hpn)) c) (hfr : ∀ (j : Nat) c b, hpn[j]? = some c → c.touch b → w.heap.size ≤ b)
    (hsep : ∀ (i j : Nat) c d, i ≠ j → hpn[i]? = some c → hpn[j]? = some d → c.wr = true → ∀ b, c.touch b → ¬ d.touch b) : HOk B (hp ++ hpn) w' := by
  have h' := h.later hb
  have hf : FsLe (faces hp) (faces (hp ++ hpn)) := by simp only [faces, List.map_append]; exact FsLe.app _ _
  have key : ∀ (i : Nat) d, (hp ++ hpn)[i]? = some d → (i < hp.length ∧ hp[i]? = some d) ∨ (hp.length ≤ i ∧ hpn[i - hp.length]? = some d) := fun i d hd => by
    rcases Nat.lt_or_ge i hp.length with hi | hi
    · rw [List.getElem?_append_left hi] at hd; exact .inl ⟨hi, hd⟩
    · rw [List.getElem?_append_right hi] at hd; exact .inr ⟨hi, hd⟩
  refine ⟨h'.bel, fun i d hd => ?_, fun i j d e hij hd he hw b h1 h2 => ?_⟩
  · rcases key i d hd with ⟨_, hd⟩ | ⟨_, hd⟩
    · exact (h'.ok i d hd).mono hf
    · exact hn _ d hd
  · rcases key i d hd with ⟨hi, hd⟩ | ⟨hi, hd⟩ <;> rcases key j e he with ⟨hj, he⟩ | ⟨hj, he⟩
    · exact h.sep i j d e hij hd he hw b h1 h2
    · have := hfr _ e b he h2
      have := Ch.touch_lt (h.ok i d hd) h1
      omega
    · have := hfr _ d b hd h1
      have := Ch.touch_lt (h.ok j e he) h2
      omega
    · exact hsep _ _ d e (by omega) hd he hw b h1 h2

section
variable {P : Program} {tb : Tab}

theorem fin_post {n0 : Nat} {R : AV → List Ck → Prop} {w : World} {hp0 : List Ch} (hn0 : hp0.length = n0) (h0 : HOk w hp0 w) {l : List TE} {ck : List Ck} (hlen : Nat.ble ck.length 100000 = true) (h : Ended n0 R l ck) : semFin ⟨w, faces hp0, []⟩ (Post w hp0 R) l ck := by
  obtain ⟨ms, v, cks, hR, hsm, hret, hnd, hfr, hwk⟩ := h
  intro hp w' hck hpre hok vs hvs
  obtain ⟨hp3, g1, g2, g3, g4, g5⟩ := weak_hp _ hck hok hwk hnd (by have := Nat.le_of_ble_eq_true hlen; omega)
  have hwl := wkHp_len hwk
  have hl3 : hp3.length = n0 + ms.length := by
    have : hp3.length = (takeK ck n0 ++ cks).length := by rw [← g1, List.length_map]
    rw [this, ← hwl, List.length_append, iota_len]
  have hct : (takeK ck n0).length = n0 := by
    have hle : n0 ≤ ck.length := by
      rcases Nat.eq_zero_or_pos n0 with h0' | h0'
      · omega
      · obtain ⟨f, hf⟩ : ∃ f, (faces hp0)[n0 - 1]? = some f := ⟨_, List.getElem?_eq_getElem (by simp [faces]; omega)⟩
        have := (List.getElem?_eq_some_iff.1 (hpre _ _ hf)).1
        rw [← hck]
        simp [faces] at this ⊢
        omega
    rw [takeK_eq, List.length_take]; omega
  obtain ⟨A, hpn, rfl, hA⟩ : ∃ A hpn, hp3 = A ++ hpn ∧ A.length = n0 := ⟨hp3.take n0, hp3.drop n0, by simp, by rw [List.length_take]; omega⟩
  have hfA : faces A = faces hp0 := by
    refine List.ext_getElem? fun j => ?_
    rcases Nat.lt_or_ge j n0 with hj | hj
    · have h1 := g3 j
      have h2 : (faces (A ++ hpn))[j]? = (faces A)[j]? := by simp only [faces, List.map_append]; rw [List.getElem?_append_left (by simpa using by omega)]
      have hM : (iota 0 n0 ++ ms)[j]? = some j := by
        rw [List.getElem?_append_left (by rw [iota_len]; exact hj), iota_at, if_pos hj]; simp
      rw [h2, if_pos (List.getElem?_eq_some_iff.1 hM).1] at h1
      have : renI (iota 0 n0 ++ ms) j = j := by simp [renI, List.getD_eq_getElem?_getD, hM]
      rw [this] at h1
      rw [h1]
      obtain ⟨f, hf⟩ : ∃ f, (faces hp0)[j]? = some f := ⟨_, List.getElem?_eq_getElem (by simp [faces]; omega)⟩
      rw [hf]; exact hpre _ _ hf
    · rw [List.getElem?_eq_none (by simp [faces]; omega), List.getElem?_eq_none (by simp [faces]; omega)]
  have hfaces : faces (hp0 ++ hpn) = faces (A ++ hpn) := by
    have : faces (hp0 ++ hpn) = faces hp0 ++ faces hpn := by simp [faces]
    rw [this, ← hfA]
    simp [faces]
  have hckn : hpn.map Ch.ck = cks := by
    rw [List.map_append] at g1
    exact (List.append_inj g1 (by rw [List.length_map, hA, hct])).2
  have hidx : ∀ (j : Nat) c, hpn[j]? = some c → (A ++ hpn)[n0 + j]? = some c := fun j c hj => by rw [List.getElem?_append_right (by omega), hA, Nat.add_sub_cancel_left]; exact hj
  have hfresh : ∀ (j : Nat) c b, hpn[j]? = some c → c.touch b → w.heap.size ≤ b := fun j c b hj hb => by
    obtain ⟨i, d, k1, k2, k3, k4, k5, k6⟩ := g5 _ c (hidx j c hj)
    have hfk : freshK c.ck = true := by
      refine List.all_eq_true.1 hfr _ ?_
      rw [← hckn]
      exact List.mem_map.2 ⟨c, List.mem_of_getElem? hj, rfl⟩
    cases c with
    | blk g T cs => exact Ch.touch_ge (hok.ok i d k2) (by rw [← k4]; rfl) ((k3 b).1 hb)
    | own A' cp T e l' => exact Ch.touch_ge (hok.ok i d k2) (by rw [← k4]; rfl) ((k3 b).1 hb)
    | arr q A' cp e l' =>
      have hd := k5 q A' cp e l' rfl
      subst hd
      have hq : q = true := hfk
      obtain ⟨hl0, ad, had, hab⟩ := (k3 b).1 hb
      have := (hok.ok i _ k2).1 hq ad had hl0
      rw [← hab]; exact this
    | ro g T cs => cases hfk
    | gone f => exact hb.elim
    | ful A' e l' => cases hfk
    | keep l' => cases hfk
    | mat q A' cp rs ll =>
      have hq : q = true := hfk
      have hd := k6 q A' cp rs ll rfl
      subst hd
      exact (hok.ok i _ k2).1 hq b hb
    | mtw A' cp T U rs ll => exact Ch.touch_ge (hok.ok i d k2) (by rw [← k4]; rfl) ((k3 b).1 hb)
  refine ⟨v, cks, hpn, retv vs, hR, hckn, rfl, ?_, ?_, hfresh, by rw [← hckn, List.length_map] at hsm; have := Nat.le_of_ble_eq_true hsm; omega⟩
  · rw [hfaces, g2, ← hret]
    exact retA_val hvs
  · refine h0.union hok.bel (fun j c hj => ?_) hfresh (fun i j c d hij hi hj hw b => g4.sep (n0 + i) (n0 + j) c d (by omega) (hidx i c hi) (hidx j d hj) hw b)
    rw [hfaces]
    exact g4.ok _ c (hidx j c hj)

/-- the run of function f, its end opaque -/
def Good (P : Program) (n0 : Nat) (R : AV → List Ck → Prop) (X : Cx) : Prop :=
  ∃ w F Q, F.length = n0 ∧ n0 ≤ 1000 ∧ X = mkX P ⟨w, F, []⟩ (semFin ⟨w, F, []⟩ Q) ∧ ∀ l ck, Nat.ble ck.length 100000 = true → Ended n0 R l ck → semFin ⟨w, F, []⟩ Q l ck

theorem fn_run {f : FuncId} {fn : Func} (ht : TabOk P tb) (he : EqOk P tb) (hm : P.follows .mixedOrders = true) (ps : Pis) (hf : P.funcs[f]? = some fn) (hb : fn.body.isSome = true) (hr : regsB ps (bodyOf fn) = true)
    {avs : List AV} {cks0 : List Ck} {R : AV → List Ck → Prop} (hn : cks0.length ≤ 1000) (h : ∀ (O : Ops) (X : Cx), O = std → Good P cks0.length R X → awp O X tb ps (bodyOf fn) (startS fn.ntmps avs cks0) (finQ O X tb fn.results.toList)) : Fn P f avs cks0 R := by
  intro w hp0 hck hok vs hvs
  have h1 := h std _ rfl ⟨w, faces hp0, Post w hp0 R, by rw [← hck]; simp [faces], hn, rfl, fun l ck h1 h2 => fin_post (by rw [← hck, List.length_map]) hok h1 h2⟩
  rw [← hck] at h1
  exact calls_run ht he hm ps hf hb hr avs hp0 hok (by simpa using hvs) h1

theorem fin_ok {n0 : Nat} {R : AV → List Ck → Prop} {X : Cx} (hX : Good P n0 R X) {l : List TE} {ck : List Ck} (hlen : Nat.ble ck.length 100000 = true) (h : Ended n0 R l ck) : X .fin l ck := by
  obtain ⟨w, F, Q, _, _, rfl, hE⟩ := hX
  exact hE l ck hlen h

/-! the call of a function that is known -/
def viewK : Ck → Ck
  | .own _ e l => .arr false e l
  | .arr _ e l => .arr false e l
  | .blk T cs => .ro T cs
  | .ro T cs => .ro T cs
  | .gone => .gone
  | .ful e l => .arr false e l
  | .keep l => .keep l
  | .mat _ ll => .mat false ll
  | .mtw _ _ ll => .mat false ll
def vwHp (m : List Nat) (hp : List Ck) : List Nat → List Ck → Prop
  | [], [] => True
  | i :: is, c :: cs => Nat.blt i hp.length = true ∧ (viewK (nthCk hp i) = renK m c ∧ vwHp m hp is cs)
  | _, _ => False
def readK : Ck → Bool
  | .arr q _ _ => !q
  | .ro .. => true
  | _ => false
def viewCh : Ch → Ch
  | .own A c _ e l => .arr false A c e l
  | .arr _ A c e l => .arr false A c e l
  | .blk g T cs => .ro g T cs
  | .ful A e l => .arr false A l.length e l
  | .mat _ A c rs ll => .mat false A c rs ll
  | .mtw A c _ _ rs ll => .mat false A c rs ll
  | d => d
theorem viewCh_face (d : Ch) : (viewCh d).face = d.face := by cases d <;> rfl
theorem viewCh_ck (d : Ch) : (viewCh d).ck = viewK d.ck := by cases d <;> rfl
theorem viewCh_wr (d : Ch) : (viewCh d).wr = false := by cases d <;> rfl
theorem viewCh_ok {B w : World} {fs : Faces} {d : Ch} (h : ChOk B w fs d) : ChOk w w fs (viewCh d) := by
  cases d with
  | blk g T cs =>
    obtain ⟨vs, h1, h2, _⟩ := h
    exact ⟨vs, h1, fun j u hj => by rw [h2.cell]; simpa using hj⟩
  | arr q A c e l => exact ⟨fun h => (by cases h), h.2⟩
  | own A c T e l =>
    have hown : w.ownsRow B.heap.size T e.sz (.slice A l.length c) l.length (e.flat l) := h
    refine ⟨fun h => (by cases h), ?_, ?_, fun h0 => ?_⟩
    · rcases hown.2 with ⟨h1, h2⟩ | ⟨g, cap, cur, hv, _, _, h3, _⟩
      · omega
      · injection hv with _ _ hv; omega
    · rcases hown.2 with ⟨h1, h2⟩ | ⟨g, cap, cur, hv, _, _, _, h3, _⟩
      · injection h1 with _ _ h1; simp only [maxLen]; omega
      · injection hv with _ _ hv; omega
    · rcases hown.2 with ⟨h1, h2⟩ | ⟨g, cap, cur, hv, _⟩
      · omega
      · injection hv with hA
        subst hA
        refine ⟨g, 0, rfl, fun k hk f v hv => ?_⟩
        have := hown.cells (g := g) rfl _ _ (e.flat_at l k f v hk hv)
        rw [add_at', Nat.zero_add] at this
        rw [Nat.zero_add]; exact this
  | ro g T cs => exact h
  | gone f => trivial
  | ful A e l => exact ⟨fun h => (by cases h), Nat.le_refl _, h.2.1, h.2.2⟩
  | keep l => exact h
  | mat q A c rs ll => exact ⟨fun h => (by cases h), h.2⟩
  | mtw A c T U rs ll => exact ⟨fun h => (by cases h), MtwOk.mat h⟩

theorem vwHp_len {m : List Nat} {hp : List Ck} : ∀ {is : List Nat} {cs : List Ck}, vwHp m hp is cs → is.length = cs.length := by
  intro is
  induction is with
  | nil => intro cs h; cases cs with
    | nil => rfl
    | cons => exact h.elim
  | cons i is ih => intro cs h; cases cs with
    | nil => exact h.elim
    | cons c cs => simp [ih h.2.2]
theorem vwHp_at {m : List Nat} {hp : List Ck} : ∀ {is : List Nat} {cs : List Ck}, vwHp m hp is cs → ∀ (j : Nat) i, is[j]? = some i → ∃ c d, cs[j]? = some c ∧ hp[i]? = some d ∧ viewK d = renK m c := by
  intro is
  induction is with
  | nil => intro cs _ j i h; simp at h
  | cons i0 is ih =>
    intro cs h j i hj
    cases cs with
    | nil => exact h.elim
    | cons c cs =>
      cases j with
      | zero =>
        simp at hj
        subst hj
        have h1 : i0 < hp.length := Nat.le_of_ble_eq_true h.1
        refine ⟨c, _, rfl, List.getElem?_eq_getElem h1, ?_⟩
        have := h.2.1
        rw [nthCk_eq, List.getD_eq_getElem?_getD, List.getElem?_eq_getElem h1] at this
        simpa using this
      | succ j => exact ih h.2.2 j i (by simpa using hj)

def ckCh (d : Ch) (c : Ck) : Ch := match d, c with
  | .ro g _ _, .ro T cs => .ro g T cs
  | .blk g _ _, .blk T cs => .blk g T cs
  | d, _ => d
theorem ckCh_face (d : Ch) (c : Ck) : (ckCh d c).face = d.face := by cases d <;> cases c <;> rfl
theorem ckCh_wr (d : Ch) (c : Ck) : (ckCh d c).wr = d.wr := by cases d <;> cases c <;> rfl
theorem ckCh_ck {m : List Nat} {d : Ch} {c : Ck} (h : d.ck = renK m c) : (ckCh d c).ck = c := by
  cases d <;> cases c <;> simp [Ch.ck, renK, ckCh] at h ⊢ <;> simp_all
theorem ckCh_ok {B w : World} {fs fs' : Faces} {m : List Nat} {d : Ch} {c : Ck} (h : d.ck = renK m c) (hv : ∀ l, vals fs' l = vals fs (l.map (renC m))) (ho : ChOk B w fs d) : ChOk B w fs' (ckCh d c) := by
  cases d with
  | blk g T cs =>
    cases c with
    | blk T' cs' =>
      simp only [Ch.ck, renK, Ck.blk.injEq] at h
      obtain ⟨rfl, rfl⟩ := h
      obtain ⟨vs, g1, g2⟩ := ho
      exact ⟨vs, by rw [hv]; exact g1, g2⟩
    | _ => cases h
  | ro g T cs =>
    cases c with
    | ro T' cs' =>
      simp only [Ch.ck, renK, Ck.ro.injEq] at h
      obtain ⟨rfl, rfl⟩ := h
      obtain ⟨vs, g1, g2⟩ := ho
      exact ⟨vs, by rw [hv]; exact g1, g2⟩
    | _ => cases h
  | arr q A cp e l => cases c <;> first | exact ho | cases h
  | own A cp T e l => cases c <;> first | exact ho | cases h
  | gone f => cases c <;> first | exact ho | cases h
  | ful A e l => cases c <;> first | exact ho | cases h
  | keep l => cases c <;> first | exact ho | cases h
  | mat q A cp rs ll => cases c <;> first | exact ho | cases h
  | mtw A cp T U rs ll => cases c <;> first | exact ho | cases h
/-- a new block seen by the caller -/
def outCh (M : List Nat) : Ch → Ch
  | .blk g T cs => .blk g T (cs.map (renC M))
  | .ro g T cs => .ro g T (cs.map (renC M))
  | d => d
theorem outCh_face (M : List Nat) (d : Ch) : (outCh M d).face = d.face := by cases d <;> rfl
theorem outCh_wr (M : List Nat) (d : Ch) : (outCh M d).wr = d.wr := by cases d <;> rfl
theorem outCh_ck (M : List Nat) (d : Ch) : (outCh M d).ck = renK M d.ck := by cases d <;> rfl
theorem outCh_touch (M : List Nat) (d : Ch) (b : Nat) : (outCh M d).touch b ↔ d.touch b := by cases d <;> simp [outCh, Ch.touch]
theorem outCh_ok {B w0 w : World} {fs fs' : Faces} {M : List Nat} {d : Ch} (hB : B.heap.size ≤ w0.heap.size) (hv : ∀ l, vals fs l = vals fs' (l.map (renC M))) (ho : ChOk w0 w fs d) : ChOk B w fs' (outCh M d) := by
  cases d with
  | blk g T cs =>
    obtain ⟨vs, g1, g2, g3, g4⟩ := ho
    exact ⟨vs, by rw [← hv]; exact g1, g2, by omega, g4⟩
  | ro g T cs =>
    obtain ⟨vs, g1, g2⟩ := ho
    exact ⟨vs, by rw [← hv]; exact g1, g2⟩
  | arr q A cp e l => exact ⟨fun hq ad had h0 => by have := ho.1 hq ad had h0; omega, ho.2⟩
  | own A cp T e l =>
    refine ⟨ho.1, ho.2.imp id ?_⟩
    rintro ⟨g, cap, cur, h1, h2, h3⟩
    exact ⟨g, cap, cur, h1, by omega, h3⟩
  | gone f => trivial
  | ful A e l => exact ⟨fun ad had h0 => by have := ho.1 ad had h0; omega, ho.2⟩
  | keep l => exact ho
  | mat q A cp rs ll => exact ⟨fun hq b hb => by have := ho.1 hq b hb; omega, ho.2⟩
  | mtw A cp T U rs ll =>
    obtain ⟨h1, h2, h3, h4⟩ := ho
    have wk : ∀ {T : TypeId} {v : Value} {n : Nat} {xs : List Value}, w.ownsRow w0.heap.size T 1 v n xs → w.ownsRow B.heap.size T 1 v n xs := fun h => ⟨h.1, h.2.imp id (by
      rintro ⟨g, cap, cur, h1, h2, h3⟩
      exact ⟨g, cap, cur, h1, by omega, h3⟩)⟩
    exact ⟨h1, wk h2, fun k v l hk hl => wk (h3 k v l hk hl), h4⟩

theorem call_fn {B : Bs} {q : Bool} {f : FuncId} {avs0 avs : List AV} {cks0 : List Ck} {R : AV → List Ck → Prop} {s : St} {K : AV → St → Prop} (h : Fn P f avs0 cks0 R) (hcB : callB P f = true) (m : List Nat) (hlen : Nat.ble s.hp.length 100000 = true)
    (hm : vwHp m s.hp m cks0) (ha : avs = avs0.map (renA m)) (hK : ∀ v cks, R v cks → K (renA (m ++ iota s.hp.length cks.length) v) ⟨s.fr, s.hp ++ cks.map (renK (m ++ iota s.hp.length cks.length))⟩) : semCall P B q f avs s K := by
  refine Or.inr ⟨hcB, fun hp w hck hok vs hvs => ?_⟩
  have hl : hp.length = s.hp.length := by rw [← hck, List.length_map]
  have hbig : hp.length ≤ 100000 := by rw [hl]; exact Nat.le_of_ble_eq_true hlen
  -- the callee's view
  have key : ∀ (j : Nat) i, m[j]? = some i → ∃ c d, cks0[j]? = some c ∧ hp[i]? = some d ∧ (viewCh d).ck = renK m c := fun j i hj => by
    obtain ⟨c, d, h1, h2, h3⟩ := vwHp_at hm j i hj
    rw [← hck, List.getElem?_map] at h2
    cases hd : hp[i]? with
    | none => rw [hd] at h2; cases h2
    | some d' =>
      rw [hd] at h2
      simp only [Option.map_some, Option.some.injEq] at h2
      exact ⟨c, d', h1, rfl, by rw [viewCh_ck, h2, h3]⟩
  obtain ⟨hp0, h0⟩ : ∃ hp0 : List Ch, ∀ (j : Nat), hp0[j]? = (m[j]?).bind fun i => (hp[i]?).bind fun d => (cks0[j]?).map fun c => ckCh (viewCh d) c := by
    refine ⟨(List.range m.length).map fun j => ckCh (viewCh (hp.getD (m.getD j 0) (.gone ⟨none, 0, 0, 1, []⟩))) (cks0.getD j .gone), fun j => ?_⟩
    rw [List.getElem?_map]
    rcases Nat.lt_or_ge j m.length with hj | hj
    · obtain ⟨c, d, h1, h2, h3⟩ := key j _ (List.getElem?_eq_getElem hj)
      rw [List.getElem?_range hj, List.getElem?_eq_getElem hj]
      simp [hj, h1, h2]
    · rw [List.getElem?_eq_none (by simpa using hj), List.getElem?_eq_none hj]; rfl
  have key0 : ∀ (j : Nat) d0, hp0[j]? = some d0 → ∃ i c d, m[j]? = some i ∧ cks0[j]? = some c ∧ hp[i]? = some d ∧ (viewCh d).ck = renK m c ∧ d0 = ckCh (viewCh d) c := fun j d0 hj => by
    rw [h0] at hj
    cases hmj : m[j]? with
    | none => rw [hmj] at hj; cases hj
    | some i =>
      obtain ⟨c, d, h1, h2, h3⟩ := key j i hmj
      rw [hmj] at hj
      simp only [Option.bind_some, h2, h1, Option.map_some, Option.some.injEq] at hj
      exact ⟨i, c, d, rfl, h1, h2, h3, hj.symm⟩
  have hml := vwHp_len hm
  have hlen0 : ∀ j : Nat, j < m.length → ∃ d0, hp0[j]? = some d0 := fun j hj => by
    obtain ⟨c, d, h1, h2, h3⟩ := key j _ (List.getElem?_eq_getElem hj)
    exact ⟨ckCh (viewCh d) c, by rw [h0, List.getElem?_eq_getElem hj]; simp [h1, h2]⟩
  have hl0 : hp0.length = m.length := by
    rcases Nat.lt_trichotomy hp0.length m.length with h | h | h
    · obtain ⟨d0, hd0⟩ := hlen0 hp0.length h
      rw [List.getElem?_eq_none (Nat.le_refl _)] at hd0; cases hd0
    · exact h
    · have := h0 m.length
      rw [List.getElem?_eq_getElem h, List.getElem?_eq_none (Nat.le_refl _)] at this; cases this
  have hf0 : ∀ (j : Nat), (faces hp0)[j]? = if j < m.length then (faces hp)[renI m j]? else none := fun j => by
    split
    · rename_i hj
      obtain ⟨d0, hd0⟩ := hlen0 j hj
      obtain ⟨i, c, d, k1, k2, k3, k4, rfl⟩ := key0 j d0 hd0
      have : renI m j = i := by simp [renI, List.getD_eq_getElem?_getD, k1]
      simp only [faces, List.getElem?_map, hd0, this, k3, Option.map_some, ckCh_face, viewCh_face]
    · rename_i hj
      rw [List.getElem?_eq_none (by simp [faces]; omega)]
  have hv0 := wk_val hf0 (by omega)
  have hvv0 : ∀ l, vals (faces hp0) l = vals (faces hp) (l.map (renC m)) := fun l => by unfold vals; rw [List.map_map]; congr 1; exact List.map_congr_left fun c _ => hv0 c
  have hva0 := wk_aval hv0
  have hok0 : HOk w hp0 w := by
    refine ⟨Below.refl _ _, fun j d0 hj => ?_, fun i j d0 e0 _ hi _ hw => ?_⟩
    · obtain ⟨i, c, d, k1, k2, k3, k4, rfl⟩ := key0 j d0 hj
      exact ckCh_ok k4 hvv0 (viewCh_ok (hok.ok i d k3))
    · obtain ⟨i', c, d, k1, k2, k3, k4, rfl⟩ := key0 i d0 hi
      rw [ckCh_wr, viewCh_wr] at hw; cases hw
  have hck0 : hp0.map Ch.ck = cks0 := by
    refine List.ext_getElem? fun j => ?_
    rw [List.getElem?_map]
    rcases Nat.lt_or_ge j m.length with hj | hj
    · obtain ⟨d0, hd0⟩ := hlen0 j hj
      obtain ⟨i, c, d, k1, k2, k3, k4, rfl⟩ := key0 j d0 hd0
      rw [hd0, k2, Option.map_some, ckCh_ck k4]
    · rw [List.getElem?_eq_none (by omega), List.getElem?_eq_none (by omega)]; rfl
  have hvs0 : allv (avs0.map (AV.val (faces hp0))) = some vs := by
    rw [ha, List.map_map] at hvs
    have : avs0.map (AV.val (faces hp0)) = avs0.map (AV.val (faces hp) ∘ renA m) := List.map_congr_left fun v _ => hva0 v
    rw [this]; exact hvs
  refine Calls.mono (h w hp0 hck0 hok0 vs hvs0) fun e w' hpost => ?_
  obtain ⟨v, cks, hpn, u, hR, hckn, rfl, hu, hok', hfr, hsm⟩ := hpost
  obtain ⟨M, hM⟩ : ∃ M, m ++ iota s.hp.length cks.length = M := ⟨_, rfl⟩
  have hKK := hK v cks hR
  rw [hM] at hKK
  have hcl : cks.length = hpn.length := by rw [← hckn, List.length_map]
  have hb : Below w.heap.size w w' := hok'.bel
  -- the new blocks
  have hfM : ∀ (j : Nat), (faces (hp0 ++ hpn))[j]? = if j < M.length then (faces (hp ++ hpn.map (outCh M)))[renI M j]? else none := fun j => by
    have hMl : M.length = m.length + hpn.length := by rw [← hM, List.length_append, iota_len, hcl]
    have hfa : faces (hp ++ hpn.map (outCh M)) = faces hp ++ faces hpn := by
      simp only [faces, List.map_append, List.map_map]
      congr 1
      exact List.map_congr_left fun d _ => outCh_face M d
    have hfa0 : faces (hp0 ++ hpn) = faces hp0 ++ faces hpn := by simp [faces]
    rw [hfa, hfa0]
    split
    · rename_i hj
      rcases Nat.lt_or_ge j m.length with h1 | h1
      · rw [List.getElem?_append_left (by simp [faces]; omega), hf0, if_pos h1]
        have e1 : renI M j = renI m j := by
          simp only [renI, List.getD_eq_getElem?_getD, ← hM]
          rw [List.getElem?_append_left h1]
        rw [e1]
        obtain ⟨c, d, k1, k2, k3⟩ := key j _ (List.getElem?_eq_getElem h1)
        have e2 : renI m j = m[j] := by simp [renI, List.getD_eq_getElem?_getD, h1]
        have := (List.getElem?_eq_some_iff.1 k2).1
        rw [List.getElem?_append_left (by simp [faces]; omega)]
      · rw [List.getElem?_append_right (by simp [faces]; omega)]
        have e1 : renI M j = hp.length + (j - m.length) := by
          simp only [renI, List.getD_eq_getElem?_getD, ← hM]
          rw [List.getElem?_append_right h1, iota_at, if_pos (by omega), Option.getD_some, hl]
        rw [e1, List.getElem?_append_right (by simp [faces])]
        simp only [faces, List.length_map, hl0]
        congr 1
        omega
    · rename_i hj
      rw [List.getElem?_eq_none (by simp [faces]; omega)]
  have hvM : ∀ c, Ce.val (faces (hp0 ++ hpn)) c = Ce.val (faces (hp ++ hpn.map (outCh M))) (renC M c) := wk_val hfM (by simp; omega)
  have hvaM := wk_aval hvM
  have hvvM : ∀ l, vals (faces (hp0 ++ hpn)) l = vals (faces (hp ++ hpn.map (outCh M))) (l.map (renC M)) := fun l => by unfold vals; rw [List.map_map]; congr 1; exact List.map_congr_left fun c _ => hvM c
  refine ⟨renA M v, u, hp ++ hpn.map (outCh M), rfl, .inr (by rw [← hvaM]; exact hu), ?_, ?_, fun _ => ⟨hb, hpn.map (outCh M), rfl, fun c hc hw b hcb => by
    obtain ⟨d, hd, rfl⟩ := List.mem_map.1 hc
    obtain ⟨j, hj⟩ := List.getElem?_of_mem hd
    exact hfr j d b hj ((outCh_touch M d b).1 hcb)⟩, ?_⟩
  · simp only [faces, List.map_append]; exact FsLe.app _ _
  · refine hok.union hb (fun j c hj => ?_) (fun j c b hj => ?_) (fun i j c d hij hi hj hw b => ?_)
    · rw [List.getElem?_map] at hj
      cases hd : hpn[j]? with
      | none => rw [hd] at hj; cases hj
      | some d =>
        rw [hd] at hj
        simp only [Option.map_some, Option.some.injEq] at hj
        subst hj
        have := hok'.ok (hp0.length + j) d (by rw [List.getElem?_append_right (by omega), Nat.add_sub_cancel_left]; exact hd)
        exact outCh_ok hok.bel.size hvvM this
    · rw [List.getElem?_map] at hj
      cases hd : hpn[j]? with
      | none => rw [hd] at hj; cases hj
      | some d =>
        rw [hd] at hj
        simp only [Option.map_some, Option.some.injEq] at hj
        subst hj
        rw [outCh_touch]
        exact hfr j d b hd
    · rw [List.getElem?_map] at hi hj
      cases hd : hpn[i]? with
      | none => rw [hd] at hi; cases hi
      | some d1 =>
        cases he : hpn[j]? with
        | none => rw [he] at hj; cases hj
        | some d2 =>
          rw [hd] at hi
          rw [he] at hj
          simp only [Option.map_some, Option.some.injEq] at hi hj
          subst hi; subst hj
          rw [outCh_touch, outCh_touch]
          rw [outCh_wr] at hw
          exact hok'.sep (hp0.length + i) (hp0.length + j) d1 d2 (by omega) (by rw [List.getElem?_append_right (by omega), Nat.add_sub_cancel_left]; exact hd) (by rw [List.getElem?_append_right (by omega), Nat.add_sub_cancel_left]; exact he) hw b
  · rw [List.map_append, hck]
    have : (hpn.map (outCh M)).map Ch.ck = cks.map (renK M) := by
      rw [← hckn, List.map_map, List.map_map]
      exact List.map_congr_left fun d _ => outCh_ck M d
    rw [this]; exact hKK

/-! values without blocks -/
def plainC : Ce → Bool
  | .int .. => true
  | .bool _ => true
  | .raw _ => true
  | _ => false
def plainL : List Ce → Bool
  | [] => true
  | c :: l => bif plainC c then plainL l else false
def plainT : List TE → Bool
  | [] => true
  | .one c :: l => bif plainC c then plainT l else false
  | .many cs :: l => bif plainL cs then plainT l else false
theorem plainC_ren {m : List Nat} {c : Ce} (h : plainC c = true) : renC m c = c := by cases c <;> first | rfl | cases h
theorem plainL_ren {m : List Nat} : ∀ {l : List Ce}, plainL l = true → l.map (renC m) = l := by
  intro l
  induction l with
  | nil => intro _; rfl
  | cons c l ih =>
    intro h
    unfold plainL at h
    cases hc : plainC c with
    | false => rw [hc] at h; cases h
    | true => rw [hc] at h; rw [List.map_cons, plainC_ren hc, ih (by simpa using h)]
theorem plainT_ren {m : List Nat} : ∀ {l : List TE}, plainT l = true → l.map (renT m) = l := by
  intro l
  induction l with
  | nil => intro _; rfl
  | cons c l ih =>
    intro h
    cases c with
    | one c =>
      unfold plainT at h
      cases hc : plainC c with
      | false => rw [hc] at h; cases h
      | true => rw [hc] at h; rw [List.map_cons, renT, plainC_ren hc, ih (by simpa using h)]
    | many cs =>
      unfold plainT at h
      cases hc : plainL cs with
      | false => rw [hc] at h; cases h
      | true => rw [hc] at h; rw [List.map_cons, renT, plainL_ren hc, ih (by simpa using h)]
theorem retA_ren {m : List Nat} {l : List TE} (h : l.map (renT m) = l) : renA m (retA l) = retA l := by
  match l with
  | [] => rfl
  | [.one c] =>
    simp only [List.map_cons, List.map_nil, renT, List.cons.injEq, TE.one.injEq, and_true] at h
    simp only [retA, renA, h]
  | [.many cs] =>
    simp only [List.map_cons, List.map_nil, renT, List.cons.injEq, TE.many.injEq, and_true] at h
    simp only [retA, renA, h]
  | x :: y :: r =>
    have hr : retA (x :: y :: r) = .tup (x :: y :: r) := by cases x <;> rfl
    rw [hr]
    simp only [renA, h]
/-- the end with a value that names no block -/
theorem fin_plain {n0 : Nat} {R : AV → List Ck → Prop} {X : Cx} (hX : Good P n0 R X) {l : List TE} {ck : List Ck} (hlen : Nat.ble ck.length 100000 = true) (hp : plainT l = true) (hwk : wkHp (iota 0 n0) ck (iota 0 n0) (takeK ck n0)) (hR : R (retA l) []) : X .fin l ck := by
  have hnd : ∀ n a, nodupB (iota a n) = true := by
    intro n
    induction n with
    | zero => intro a; rfl
    | succ n ih =>
      intro a
      simp only [iota, nodupB, Bool.and_eq_true, Bool.not_eq_true', ih, and_true]
      cases hc : (iota (a + 1) n).contains a with
      | false => rfl
      | true =>
        exfalso
        have := List.contains_iff_mem.1 hc
        obtain ⟨j, hj⟩ := List.getElem?_of_mem this
        rw [iota_at] at hj
        split at hj
        · injection hj with hj; omega
        · cases hj
  refine fin_ok hX hlen ⟨[], retA l, [], hR, rfl, ?_, by rw [List.append_nil]; exact hnd _ _, rfl, by rw [List.append_nil, List.append_nil]; exact hwk⟩
  rw [retA_ren (plainT_ren hp)]

/-! loops -/
def asgO : List Oper → List Nat
  | [] => []
  | o :: l => match o.dst with
    | some d => d :: asgO l
    | none => asgO l
def asg : Code → List Nat
  | .region _ ops _ => asgO ops.toList
  | .seq a b => asg a ++ asg b
  | .cond _ x y => asg x ++ asg y
  | .block _ b => asg b
  | .loop b => asg b
  | .scope b => asg b
  | _ => []
def junkAs (l : List AV) : List Nat → List AV
  | [] => l
  | d :: r => junkAs (setA l d .junk) r
def setAs (l : List AV) : List (Nat × AV) → List AV
  | [] => l
  | (d, v) :: r => setAs (setA l d v) r
def setKs (l : List Ck) : List (Nat × Ck) → List Ck
  | [] => l
  | (d, v) :: r => setKs (setK l d v) r
def headS (b : Code) (s : St) (vs : List (Nat × AV)) (cs : List (Nat × Ck)) : St := ⟨setAs (junkAs s.fr (asg b)) vs, setKs s.hp cs⟩
/-- own slices that the state to come only reads -/
def frzTo : List Ck → List Nat → List Ck → List Ck
  | ck, i :: is, c :: cs => match c with
    | .arr true _ _ => frzTo (setK ck i (ownK (nthCk ck i))) is cs
    | .gone => frzTo (setK ck i .gone) is cs
    | _ => frzTo ck is cs
  | ck, [], _ => ck
  | ck, _ :: _, [] => ck
theorem frzTo_ok {B : Bs} {a : Act} {w : World} {fr : List AV} : ∀ {is : List Nat} {cs ck : List Ck} {hp : List Ch}, SatH B hp ⟨fr, ck⟩ a w → ∃ hp', SatH B hp' ⟨fr, frzTo ck is cs⟩ a w := by
  intro is
  induction is with
  | nil => intro cs ck hp h; unfold frzTo; exact ⟨hp, h⟩
  | cons i is ih =>
    intro cs ck hp h
    cases cs with
    | nil => unfold frzTo; exact ⟨hp, h⟩
    | cons c cs =>
      unfold frzTo
      split
      · obtain ⟨hp', h', _⟩ := frz_one h i
        exact ih h'
      · obtain ⟨hp', h', _⟩ := gone_one h i
        exact ih h'
      · exact ih h
def wkAll (n0 : Nat) (m : List Nat) (s s' : St) : Prop :=
  wkFr m s.fr s'.fr ∧ (wkHp m (frzTo s.hp m s'.hp) m s'.hp ∧ (nodupB m = true ∧ (Nat.ble s'.fr.length s.fr.length = true ∧ (Nat.ble (frzTo s.hp m s'.hp).length 100000 = true ∧ iota 0 n0 = m.take n0))))
theorem wkAll_ok {B : Bs} {n0 : Nat} (hF : B.F.length = n0) {m : List Nat} {s s' : St} (h : wkAll n0 m s s') : ∀ a w, Sat B s a w → Sat B s' a w := by
  obtain ⟨h1, h2, h3, h4, h5, h6⟩ := h
  intro a w hs
  obtain ⟨hp, hs⟩ := hs
  obtain ⟨hp', hs'⟩ := frzTo_ok (is := m) (cs := s'.hp) (fr := s.fr) (ck := s.hp) hs
  refine weak_ok (s := ⟨s.fr, frzTo s.hp m s'.hp⟩) m h1 h2 h3 (Nat.le_of_ble_eq_true h4) (by have := Nat.le_of_ble_eq_true h5; show (frzTo s.hp m s'.hp).length ≤ _; omega) (fun j f hj => ?_) a w ⟨hp', hs'⟩
  have hj' := (List.getElem?_eq_some_iff.1 hj).1
  have h7 := congrArg (fun l => l[j]?) h6
  simp only [iota_at, List.getElem?_take] at h7
  rw [if_pos (by omega), if_pos (by omega)] at h7
  rw [← h7]; simp
/-- what a round leaves -/
def Round {ι : Type} (n0 : Nat) (S : ι → St) (μ : ι → Nat) (x : ι) (Q : Exit → St → Prop) (e : Exit) (s' : St) : Prop :=
  match e with
  | .normal => ∃ x' m, wkAll n0 m s' (S x') ∧ μ x' < μ x
  | e => Q e s'
theorem loop_go (ht : TabOk P tb) (he : EqOk P tb) (hm : P.follows .mixedOrders = true) (ps : Pis) {n0 : Nat} {R : AV → List Ck → Prop} {O : Ops} {X : Cx} (hO : O = std) (hX : Good P n0 R X) {b : Code} {s : St} {Q : Exit → St → Prop} {ι : Type} (V : ι → List (Nat × AV)) (C : ι → List (Nat × Ck)) (μ : ι → Nat) (x0 : ι)
    (hr : regsB ps b = true) (h0 : wkAll n0 (iota 0 s.hp.length) s (headS b s (V x0) (C x0)))
    (hb : ∀ x, awp O X tb ps b (headS b s (V x) (C x)) (Round n0 (fun x => headS b s (V x) (C x)) μ x Q)) : X .loop b s Q := by
  subst hO
  obtain ⟨w, F0, Q0, hF, _, rfl, _⟩ := hX
  refine loop_ok ht he hm ps (fun x => headS b s (V x) (C x)) μ x0 (wkAll_ok hF h0) hr hb (fun x e s' h => ?_)
  cases e with
  | normal => obtain ⟨x', m, h1, h2⟩ := h; exact ⟨x', wkAll_ok hF h1, h2⟩
  | exit id => exact h
  | goto l => exact h
  | ret => exact h
  | panic c => exact h
  | outgrown => exact h

/-- a call, from what is known of the function -/
theorem call_go {n0 : Nat} {R0 : AV → List Ck → Prop} {O : Ops} {X : Cx} (_hO : O = std) (hX : Good P n0 R0 X) {q : Bool} {f : FuncId} {avs0 avs : List AV} {cks0 : List Ck} {R : AV → List Ck → Prop} {s : St} {K : AV → St → Prop} (h : Fn P f avs0 cks0 R) (hcB : callB P f = true) (m : List Nat) (hlen : Nat.ble s.hp.length 100000 = true)
    (hm : vwHp m s.hp m cks0) (ha : avs = avs0.map (renA m)) (hK : ∀ v cks, R v cks → K (renA (m ++ iota s.hp.length cks.length) v) ⟨s.fr, s.hp ++ cks.map (renK (m ++ iota s.hp.length cks.length))⟩) : X .call q f avs s K := by
  obtain ⟨w, F0, Q0, _, _, rfl, _⟩ := hX
  exact call_fn h hcB m hlen hm ha hK
/-- what a call that is walked where it stands leaves -/
def InlQ (w0 w : World) (hp : List Ch) (s : St) (K : AV → St → Prop) (e : Ending) (w' : World) : Prop :=
  ∃ v u hp', e = .returned u ∧ v.rel (faces hp') u ∧ FsLe (faces hp) (faces hp') ∧ HOk w0 hp' w' ∧ (false = true → Below w.heap.size w w' ∧ News w hp hp') ∧ K v ⟨s.fr, hp'.map Ch.ck⟩
/-- a call that is walked where it stands: over the caller's own blocks -/
theorem call_inline (ht : TabOk P tb) (he : EqOk P tb) (hm : P.follows .mixedOrders = true) (ps : Pis) {n0 : Nat} {R : AV → List Ck → Prop} {O : Ops} {X : Cx} (hO : O = std) (hX : Good P n0 R X) {f : FuncId} {fn : Func} (hcB : callB P f = true) (hf : P.funcs[f]? = some fn) (hb : fn.body.isSome = true) (hr : regsB ps (bodyOf fn) = true)
    {avs : List AV} {s : St} {K : AV → St → Prop} (hlen : Nat.ble s.hp.length 1000 = true)
    (h : ∀ X1, Good P s.hp.length (fun _ _ => False) X1 → (∀ l ck, K (retA l) ⟨s.fr, ck⟩ → X1 .fin l ck) → awp O X1 tb ps (bodyOf fn) (startS fn.ntmps avs s.hp) (finQ O X1 tb fn.results.toList)) : X .call false f avs s K := by
  subst hO
  obtain ⟨w0, F0, Q0, _, _, rfl, _⟩ := hX
  refine Or.inr ⟨hcB, fun hp w hck hok vs hvs => ?_⟩
  have hl : (faces hp).length = s.hp.length := by rw [← hck]; simp [faces]
  have h1 := h (mkX P ⟨w0, faces hp, []⟩ (semFin ⟨w0, faces hp, []⟩ (InlQ w0 w hp s K)))
    ⟨w0, faces hp, _, hl, Nat.le_of_ble_eq_true hlen, rfl, fun l ck _ he => by obtain ⟨_, _, _, hF, _⟩ := he; exact hF.elim⟩
    (fun l ck hK => by
      intro hp' w' hck' hpre hok' vs' hvs'
      subst hck'
      exact ⟨retA l, retv vs', hp', rfl, .inr (retA_val hvs'), hpre, hok', (fun h => by cases h), hK⟩)
  rw [← hck] at h1
  exact calls_run ht he hm ps hf hb hr avs hp hok (by simpa using hvs) h1
/-- a call of a function over plain values -/
theorem fn_old {f : FuncId} {avs : List AV} {v : AV} (vs : List Value) (u : Value) (h : ∀ w, Calls P f vs.toArray w fun e w' => e = .returned u ∧ Below w.heap.size w w') (ha : ∀ fs, allv (avs.map (AV.val fs)) = some vs) (hv : ∀ fs, v.val fs = some u) : Fn P f avs [] (fun v' c => v' = v ∧ c = []) := by
  intro w hp0 hck hok vs' hvs
  rw [ha] at hvs
  injection hvs with hvs
  subst hvs
  refine Calls.mono (h w) fun e w' ⟨he, hb⟩ => ⟨v, [], [], u, ⟨rfl, rfl⟩, rfl, he, hv _, ?_, fun j c b hj => by simp at hj, by simp⟩
  rw [List.append_nil]
  exact hok.later hb

def Round1 {α : Type} (n0 : Nat) (I : α → Prop) (S : α → St) (μ : α → Nat) (k : Unit → Nat) (Q : Exit → St → Prop) (e : Exit) (s' : St) : Prop :=
  match e with
  | .normal => ∃ y1' m, I y1' ∧ (wkAll n0 m s' (S y1') ∧ μ y1' < k ())
  | e => Q e s'
theorem loop1 (ht : TabOk P tb) (he : EqOk P tb) (hm : P.follows .mixedOrders = true) (ps : Pis) {n0 : Nat} {R : AV → List Ck → Prop} {O : Ops} {X : Cx} (hO : O = std) (hX : Good P n0 R X) {b : Code} {s : St} {Q : Exit → St → Prop} {α : Type} (I : α → Prop) (V : α → List (Nat × AV)) (C : α → List (Nat × Ck)) (μ : α → Nat) (y1i : α)
    (hr : regsB ps b = true) (hi : I y1i) (h0 : wkAll n0 (iota 0 s.hp.length) s (headS b s (V y1i) (C y1i)))
    (hb : ∀ y1, I y1 → awp O X tb ps b (headS b s (V y1) (C y1)) (Round1 n0 I (fun y1 => headS b s (V y1) (C y1)) μ (fun _ => μ y1) Q)) : X .loop b s Q := by
  subst hO
  obtain ⟨w, F0, Q0, hF, _, rfl, _⟩ := hX
  refine loop_ok ht he hm ps (ι := { p : α // I p }) (fun x => let p := x.1; headS b s (V p) (C p)) (fun x => let p := x.1; μ p) ⟨y1i, hi⟩ (wkAll_ok hF h0) hr (fun x => let p := x.1; hb (p) x.2) (fun x e s' h => ?_)
  cases e with
  | normal => obtain ⟨y1', m, h1, h2, h3⟩ := h; exact ⟨⟨y1', h1⟩, wkAll_ok hF h2, h3⟩
  | exit id => exact h
  | goto l => exact h
  | ret => exact h
  | panic c => exact h
  | outgrown => exact h

def Round2 {α β : Type} (n0 : Nat) (I : α → β → Prop) (S : α → β → St) (μ : α → β → Nat) (k : Unit → Nat) (Q : Exit → St → Prop) (e : Exit) (s' : St) : Prop :=
  match e with
  | .normal => ∃ y1' y2' m, I y1' y2' ∧ (wkAll n0 m s' (S y1' y2') ∧ μ y1' y2' < k ())
  | e => Q e s'
theorem loop2 (ht : TabOk P tb) (he : EqOk P tb) (hm : P.follows .mixedOrders = true) (ps : Pis) {n0 : Nat} {R : AV → List Ck → Prop} {O : Ops} {X : Cx} (hO : O = std) (hX : Good P n0 R X) {b : Code} {s : St} {Q : Exit → St → Prop} {α β : Type} (I : α → β → Prop) (V : α → β → List (Nat × AV)) (C : α → β → List (Nat × Ck)) (μ : α → β → Nat) (y1i : α) (y2i : β)
    (hr : regsB ps b = true) (hi : I y1i y2i) (h0 : wkAll n0 (iota 0 s.hp.length) s (headS b s (V y1i y2i) (C y1i y2i)))
    (hb : ∀ y1 y2, I y1 y2 → awp O X tb ps b (headS b s (V y1 y2) (C y1 y2)) (Round2 n0 I (fun y1 y2 => headS b s (V y1 y2) (C y1 y2)) μ (fun _ => μ y1 y2) Q)) : X .loop b s Q := by
  subst hO
  obtain ⟨w, F0, Q0, hF, _, rfl, _⟩ := hX
  refine loop_ok ht he hm ps (ι := { p : α × β // I p.1 p.2 }) (fun x => let p := x.1; headS b s (V p.1 p.2) (C p.1 p.2)) (fun x => let p := x.1; μ p.1 p.2) ⟨(y1i, y2i), hi⟩ (wkAll_ok hF h0) hr (fun x => let p := x.1; hb (p.1) (p.2) x.2) (fun x e s' h => ?_)
  cases e with
  | normal => obtain ⟨y1', y2', m, h1, h2, h3⟩ := h; exact ⟨⟨(y1', y2'), h1⟩, wkAll_ok hF h2, h3⟩
  | exit id => exact h
  | goto l => exact h
  | ret => exact h
  | panic c => exact h
  | outgrown => exact h

def Round3 {α β γ : Type} (n0 : Nat) (I : α → β → γ → Prop) (S : α → β → γ → St) (μ : α → β → γ → Nat) (k : Unit → Nat) (Q : Exit → St → Prop) (e : Exit) (s' : St) : Prop :=
  match e with
  | .normal => ∃ y1' y2' y3' m, I y1' y2' y3' ∧ (wkAll n0 m s' (S y1' y2' y3') ∧ μ y1' y2' y3' < k ())
  | e => Q e s'
theorem loop3 (ht : TabOk P tb) (he : EqOk P tb) (hm : P.follows .mixedOrders = true) (ps : Pis) {n0 : Nat} {R : AV → List Ck → Prop} {O : Ops} {X : Cx} (hO : O = std) (hX : Good P n0 R X) {b : Code} {s : St} {Q : Exit → St → Prop} {α β γ : Type} (I : α → β → γ → Prop) (V : α → β → γ → List (Nat × AV)) (C : α → β → γ → List (Nat × Ck)) (μ : α → β → γ → Nat) (y1i : α) (y2i : β) (y3i : γ)
    (hr : regsB ps b = true) (hi : I y1i y2i y3i) (h0 : wkAll n0 (iota 0 s.hp.length) s (headS b s (V y1i y2i y3i) (C y1i y2i y3i)))
    (hb : ∀ y1 y2 y3, I y1 y2 y3 → awp O X tb ps b (headS b s (V y1 y2 y3) (C y1 y2 y3)) (Round3 n0 I (fun y1 y2 y3 => headS b s (V y1 y2 y3) (C y1 y2 y3)) μ (fun _ => μ y1 y2 y3) Q)) : X .loop b s Q := by
  subst hO
  obtain ⟨w, F0, Q0, hF, _, rfl, _⟩ := hX
  refine loop_ok ht he hm ps (ι := { p : α × β × γ // I p.1 p.2.1 p.2.2 }) (fun x => let p := x.1; headS b s (V p.1 p.2.1 p.2.2) (C p.1 p.2.1 p.2.2)) (fun x => let p := x.1; μ p.1 p.2.1 p.2.2) ⟨(y1i, y2i, y3i), hi⟩ (wkAll_ok hF h0) hr (fun x => let p := x.1; hb (p.1) (p.2.1) (p.2.2) x.2) (fun x e s' h => ?_)
  cases e with
  | normal => obtain ⟨y1', y2', y3', m, h1, h2, h3⟩ := h; exact ⟨⟨(y1', y2', y3'), h1⟩, wkAll_ok hF h2, h3⟩
  | exit id => exact h
  | goto l => exact h
  | ret => exact h
  | panic c => exact h
  | outgrown => exact h

def Round4 {α β γ δ : Type} (n0 : Nat) (I : α → β → γ → δ → Prop) (S : α → β → γ → δ → St) (μ : α → β → γ → δ → Nat) (k : Unit → Nat) (Q : Exit → St → Prop) (e : Exit) (s' : St) : Prop :=
  match e with
  | .normal => ∃ y1' y2' y3' y4' m, I y1' y2' y3' y4' ∧ (wkAll n0 m s' (S y1' y2' y3' y4') ∧ μ y1' y2' y3' y4' < k ())
  | e => Q e s'
theorem loop4 (ht : TabOk P tb) (he : EqOk P tb) (hm : P.follows .mixedOrders = true) (ps : Pis) {n0 : Nat} {R : AV → List Ck → Prop} {O : Ops} {X : Cx} (hO : O = std) (hX : Good P n0 R X) {b : Code} {s : St} {Q : Exit → St → Prop} {α β γ δ : Type} (I : α → β → γ → δ → Prop) (V : α → β → γ → δ → List (Nat × AV)) (C : α → β → γ → δ → List (Nat × Ck)) (μ : α → β → γ → δ → Nat) (y1i : α) (y2i : β) (y3i : γ) (y4i : δ)
    (hr : regsB ps b = true) (hi : I y1i y2i y3i y4i) (h0 : wkAll n0 (iota 0 s.hp.length) s (headS b s (V y1i y2i y3i y4i) (C y1i y2i y3i y4i)))
    (hb : ∀ y1 y2 y3 y4, I y1 y2 y3 y4 → awp O X tb ps b (headS b s (V y1 y2 y3 y4) (C y1 y2 y3 y4)) (Round4 n0 I (fun y1 y2 y3 y4 => headS b s (V y1 y2 y3 y4) (C y1 y2 y3 y4)) μ (fun _ => μ y1 y2 y3 y4) Q)) : X .loop b s Q := by
  subst hO
  obtain ⟨w, F0, Q0, hF, _, rfl, _⟩ := hX
  refine loop_ok ht he hm ps (ι := { p : α × β × γ × δ // I p.1 p.2.1 p.2.2.1 p.2.2.2 }) (fun x => let p := x.1; headS b s (V p.1 p.2.1 p.2.2.1 p.2.2.2) (C p.1 p.2.1 p.2.2.1 p.2.2.2)) (fun x => let p := x.1; μ p.1 p.2.1 p.2.2.1 p.2.2.2) ⟨(y1i, y2i, y3i, y4i), hi⟩ (wkAll_ok hF h0) hr (fun x => let p := x.1; hb (p.1) (p.2.1) (p.2.2.1) (p.2.2.2) x.2) (fun x e s' h => ?_)
  cases e with
  | normal => obtain ⟨y1', y2', y3', y4', m, h1, h2, h3⟩ := h; exact ⟨⟨(y1', y2', y3', y4'), h1⟩, wkAll_ok hF h2, h3⟩
  | exit id => exact h
  | goto l => exact h
  | ret => exact h
  | panic c => exact h
  | outgrown => exact h

def Round5 {α β γ δ ε : Type} (n0 : Nat) (I : α → β → γ → δ → ε → Prop) (S : α → β → γ → δ → ε → St) (μ : α → β → γ → δ → ε → Nat) (k : Unit → Nat) (Q : Exit → St → Prop) (e : Exit) (s' : St) : Prop :=
  match e with
  | .normal => ∃ y1' y2' y3' y4' y5' m, I y1' y2' y3' y4' y5' ∧ (wkAll n0 m s' (S y1' y2' y3' y4' y5') ∧ μ y1' y2' y3' y4' y5' < k ())
  | e => Q e s'
theorem loop5 (ht : TabOk P tb) (he : EqOk P tb) (hm : P.follows .mixedOrders = true) (ps : Pis) {n0 : Nat} {R : AV → List Ck → Prop} {O : Ops} {X : Cx} (hO : O = std) (hX : Good P n0 R X) {b : Code} {s : St} {Q : Exit → St → Prop} {α β γ δ ε : Type} (I : α → β → γ → δ → ε → Prop) (V : α → β → γ → δ → ε → List (Nat × AV)) (C : α → β → γ → δ → ε → List (Nat × Ck)) (μ : α → β → γ → δ → ε → Nat) (y1i : α) (y2i : β) (y3i : γ) (y4i : δ) (y5i : ε)
    (hr : regsB ps b = true) (hi : I y1i y2i y3i y4i y5i) (h0 : wkAll n0 (iota 0 s.hp.length) s (headS b s (V y1i y2i y3i y4i y5i) (C y1i y2i y3i y4i y5i)))
    (hb : ∀ y1 y2 y3 y4 y5, I y1 y2 y3 y4 y5 → awp O X tb ps b (headS b s (V y1 y2 y3 y4 y5) (C y1 y2 y3 y4 y5)) (Round5 n0 I (fun y1 y2 y3 y4 y5 => headS b s (V y1 y2 y3 y4 y5) (C y1 y2 y3 y4 y5)) μ (fun _ => μ y1 y2 y3 y4 y5) Q)) : X .loop b s Q := by
  subst hO
  obtain ⟨w, F0, Q0, hF, _, rfl, _⟩ := hX
  refine loop_ok ht he hm ps (ι := { p : α × β × γ × δ × ε // I p.1 p.2.1 p.2.2.1 p.2.2.2.1 p.2.2.2.2 }) (fun x => let p := x.1; headS b s (V p.1 p.2.1 p.2.2.1 p.2.2.2.1 p.2.2.2.2) (C p.1 p.2.1 p.2.2.1 p.2.2.2.1 p.2.2.2.2)) (fun x => let p := x.1; μ p.1 p.2.1 p.2.2.1 p.2.2.2.1 p.2.2.2.2) ⟨(y1i, y2i, y3i, y4i, y5i), hi⟩ (wkAll_ok hF h0) hr (fun x => let p := x.1; hb (p.1) (p.2.1) (p.2.2.1) (p.2.2.2.1) (p.2.2.2.2) x.2) (fun x e s' h => ?_)
  cases e with
  | normal => obtain ⟨y1', y2', y3', y4', y5', m, h1, h2, h3⟩ := h; exact ⟨⟨(y1', y2', y3', y4', y5'), h1⟩, wkAll_ok hF h2, h3⟩
  | exit id => exact h
  | goto l => exact h
  | ret => exact h
  | panic c => exact h
  | outgrown => exact h

def Round6 {α β γ δ ε ζ : Type} (n0 : Nat) (I : α → β → γ → δ → ε → ζ → Prop) (S : α → β → γ → δ → ε → ζ → St) (μ : α → β → γ → δ → ε → ζ → Nat) (k : Unit → Nat) (Q : Exit → St → Prop) (e : Exit) (s' : St) : Prop :=
  match e with
  | .normal => ∃ y1' y2' y3' y4' y5' y6' m, I y1' y2' y3' y4' y5' y6' ∧ (wkAll n0 m s' (S y1' y2' y3' y4' y5' y6') ∧ μ y1' y2' y3' y4' y5' y6' < k ())
  | e => Q e s'
theorem loop6 (ht : TabOk P tb) (he : EqOk P tb) (hm : P.follows .mixedOrders = true) (ps : Pis) {n0 : Nat} {R : AV → List Ck → Prop} {O : Ops} {X : Cx} (hO : O = std) (hX : Good P n0 R X) {b : Code} {s : St} {Q : Exit → St → Prop} {α β γ δ ε ζ : Type} (I : α → β → γ → δ → ε → ζ → Prop) (V : α → β → γ → δ → ε → ζ → List (Nat × AV)) (C : α → β → γ → δ → ε → ζ → List (Nat × Ck)) (μ : α → β → γ → δ → ε → ζ → Nat) (y1i : α) (y2i : β) (y3i : γ) (y4i : δ) (y5i : ε) (y6i : ζ)
    (hr : regsB ps b = true) (hi : I y1i y2i y3i y4i y5i y6i) (h0 : wkAll n0 (iota 0 s.hp.length) s (headS b s (V y1i y2i y3i y4i y5i y6i) (C y1i y2i y3i y4i y5i y6i)))
    (hb : ∀ y1 y2 y3 y4 y5 y6, I y1 y2 y3 y4 y5 y6 → awp O X tb ps b (headS b s (V y1 y2 y3 y4 y5 y6) (C y1 y2 y3 y4 y5 y6)) (Round6 n0 I (fun y1 y2 y3 y4 y5 y6 => headS b s (V y1 y2 y3 y4 y5 y6) (C y1 y2 y3 y4 y5 y6)) μ (fun _ => μ y1 y2 y3 y4 y5 y6) Q)) : X .loop b s Q := by
  subst hO
  obtain ⟨w, F0, Q0, hF, _, rfl, _⟩ := hX
  refine loop_ok ht he hm ps (ι := { p : α × β × γ × δ × ε × ζ // I p.1 p.2.1 p.2.2.1 p.2.2.2.1 p.2.2.2.2.1 p.2.2.2.2.2 }) (fun x => let p := x.1; headS b s (V p.1 p.2.1 p.2.2.1 p.2.2.2.1 p.2.2.2.2.1 p.2.2.2.2.2) (C p.1 p.2.1 p.2.2.1 p.2.2.2.1 p.2.2.2.2.1 p.2.2.2.2.2)) (fun x => let p := x.1; μ p.1 p.2.1 p.2.2.1 p.2.2.2.1 p.2.2.2.2.1 p.2.2.2.2.2) ⟨(y1i, y2i, y3i, y4i, y5i, y6i), hi⟩ (wkAll_ok hF h0) hr (fun x => let p := x.1; hb (p.1) (p.2.1) (p.2.2.1) (p.2.2.2.1) (p.2.2.2.2.1) (p.2.2.2.2.2) x.2) (fun x e s' h => ?_)
  cases e with
  | normal => obtain ⟨y1', y2', y3', y4', y5', y6', m, h1, h2, h3⟩ := h; exact ⟨⟨(y1', y2', y3', y4', y5', y6'), h1⟩, wkAll_ok hF h2, h3⟩
  | exit id => exact h
  | goto l => exact h
  | ret => exact h
  | panic c => exact h
  | outgrown => exact h

/-! what the run leaves opaque -/
theorem inr64 {n : Int} (h1 : -9223372036854775808 ≤ n) (h2 : n ≤ 9223372036854775807) : std .inr .i64 n := IntWalk.i64_in n ⟨h1, h2⟩
section
variable {O : Ops} (hO : O = std) {a b : Int}
include hO
theorem lt_t (h : O .lt a b = true) : a < b := by subst hO; simpa [std] using h
theorem lt_f (h : O .lt a b = false) : b ≤ a := by subst hO; simpa [std] using h
theorem le_t (h : O .le a b = true) : a ≤ b := by subst hO; simpa [std] using h
theorem le_f (h : O .le a b = false) : b < a := by subst hO; simpa [std] using h
theorem eq_t (h : O .eq a b = true) : a = b := by subst hO; simpa [std] using h
theorem eq_f (h : O .eq a b = false) : a ≠ b := by subst hO; simpa [std] using h
theorem ne_t (h : O .not (O .eq a b) = true) : a ≠ b := by subst hO; simpa [std] using h
theorem ne_f (h : O .not (O .eq a b) = false) : a = b := by subst hO; simpa [std] using h
theorem not_t {c : Bool} (h : O .not c = true) : c = false := by subst hO; simpa [std] using h
theorem not_f {c : Bool} (h : O .not c = false) : c = true := by subst hO; simpa [std] using h
omit hO in theorem not_lit (hO : O = std) : O .not true = false ∧ O .not false = true := by subst hO; exact ⟨rfl, rfl⟩
theorem room_mk {e : El} {l : List e.T} (h : l.length ≤ 1099511627776) : O .room (O .len e l) := by subst hO; exact h
theorem app_e {e : El} {l l' : List e.T} : O .app e l l' = l ++ l' := by subst hO; rfl
theorem len_e {e : El} {l : List e.T} : O .len e l = l.length := by subst hO; rfl
theorem ofNat_e {n : Nat} : O .ofNat n = (n : Int) := by subst hO; rfl
theorem toNat_e {n : Int} : O .toNat n = n.toNat := by subst hO; rfl
theorem get_e {e : El} {l : List e.T} {k : Nat} : O .get e l k = l.getD k e.zero := by subst hO; rfl
theorem put_e {e : El} {l : List e.T} {k : Nat} {x : e.T} : O .put e l k x = l.set k x := by subst hO; rfl
theorem kin_mk {e : El} {l : List e.T} {k : Nat} (h : k < l.length) : O .kin k (O .len e l) := by subst hO; exact h
theorem idx_mk {e : El} {l : List e.T} {i : Int} (h : 0 ≤ i ∧ i < (l.length : Int)) : O .idx i (O .len e l) := by subst hO; exact h
theorem cut_e {e : El} {l : List e.T} {x y : Nat} : O .cut e l x y = (l.drop x).take (y - x) := by subst hO; rfl
theorem rng_mk {n : Nat} (h : 0 ≤ a ∧ a ≤ (n : Int)) : O .rng a n := by subst hO; exact h
theorem nz_mk (h : a ≠ 0) : O .nz a := by subst hO; exact h
theorem inr_mk {n : Int} (h1 : -9223372036854775808 ≤ n) (h2 : n ≤ 9223372036854775807) : O .inr .i64 n := by subst hO; exact inr64 h1 h2
theorem min_e : O .min a b = min a b := by subst hO; simp only [std]; omega
theorem max_e : O .max a b = max a b := by subst hO; simp only [std]; omega
theorem add_e : O .add a b = a + b := by subst hO; rfl
theorem sub_e : O .sub a b = a - b := by subst hO; rfl
theorem mul_e : O .mul a b = a * b := by subst hO; rfl
theorem quo_e : O .quo a b = a.tdiv b := by subst hO; rfl
theorem rem_e : O .rem a b = a.tmod b := by subst hO; rfl
end
end
end Go.Proofs.YtmnhfaaaaejpaaaGreat
