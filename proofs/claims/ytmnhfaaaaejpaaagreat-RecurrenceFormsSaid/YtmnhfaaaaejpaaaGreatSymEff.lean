/-
  A symbolic run: the operations that make or change memory do what it says. No program here.
-/
import Derived.Test.YtmnhfaaaaejpaaaGreatSymOk
import Derived.Great.BuildSlice
import Derived.Laws.AppendOwnNone
import Derived.Laws.CopyRow
import Derived.Laws.Cover3
import Derived.Laws.MakeOwn
namespace Go.Proofs.YtmnhfaaaaejpaaaGreat
open Go.RowKit

section
variable {P : Program} {tb : Tab} {B : World} {w : World} {hp : List Ch} {fr : List AV} {a : Act} {o : Oper}

/-- an operation that changes what was there -/
def wrOp : Op → Bool
  | .store .. => true
  | .call .. => true
  | _ => false
/-- more blocks behind those that were there; what is the call's own among them lies behind the world -/
def News (w : World) (hp hp' : List Ch) : Prop := ∃ news, hp' = hp ++ news ∧ ∀ c ∈ news, c.wr = true → ∀ b, c.touch b → w.heap.size ≤ b
theorem News.nil (w : World) (hp : List Ch) : News w hp hp := ⟨[], by simp, fun c h => by cases h⟩
theorem News.one {w : World} {hp : List Ch} {c : Ch} (h : c.wr = true → ∀ b, c.touch b → w.heap.size ≤ b) : News w hp (hp ++ [c]) := ⟨[c], rfl, fun d hd => by rw [List.mem_singleton.1 hd]; exact h⟩
theorem News.trans {w w' : World} {hp hp' hp2 : List Ch} (h : News w hp hp') (hs : w.heap.size ≤ w'.heap.size) (h' : News w' hp' hp2) : News w hp hp2 := by
  obtain ⟨n1, rfl, g1⟩ := h
  obtain ⟨n2, rfl, g2⟩ := h'
  refine ⟨n1 ++ n2, by rw [List.append_assoc], fun c hc hw b hb => ?_⟩
  rcases List.mem_append.1 hc with h | h
  · exact g1 c h hw b hb
  · exact Nat.le_trans hs (g2 c h hw b hb)
theorem News.len {w : World} {hp hp' : List Ch} (h : News w hp hp') : hp.length ≤ hp'.length := by obtain ⟨n, rfl, _⟩ := h; simp
/-- an operation that may make or change memory -/
def Does (P : Program) (B : World) (hp : List Ch) (a : Act) (w : World) (o : Oper) (v : AV) (ck : List Ck) : Prop :=
  ∃ n u w' hp', (execOp a.eval o).run P w = .ok n w' ∧ (n = .value u ∨ n = .skip ∧ u = undef) ∧ (hp'.map Ch.ck = ck ∧ (wrOp o.op = false → Below w.heap.size w w' ∧ News w hp hp')) ∧ FsLe (faces hp) (faces hp') ∧ HOk B hp' w' ∧ v.rel (faces hp') u

theorem faces_app (hp : List Ch) (c : Ch) : FsLe (faces hp) (faces (hp ++ [c])) := by simp only [faces, List.map_append]; exact FsLe.app _ _
theorem face_new (hp : List Ch) (c : Ch) : (faces (hp ++ [c]))[hp.length]? = some c.face := by simp [faces]

theorem alloc_ok (ht : TabOk P tb) (hk : HOk B hp w) {T : TypeId} {ti : TI} (hop : o.op = .alloc T) (hti : getTI tb T = some ti) :
    Does P B hp a w o (.c (.ptr hp.length 0)) (hp.map Ch.ck ++ [.blk T ti.zero]) := by
  obtain ⟨i, z, hi, hz, hs, _, hcs, hv, h1⟩ := (ht _ _ hti).info
  refine ⟨_, .pointer (some ⟨w.heap.size, 0, none⟩), w.alloc (.cells z.cells T), hp ++ [.blk w.heap.size T ti.zero], ?_, .inl rfl, ⟨by simp [Ch.ck], (fun _ => ⟨(Below.refl _ _).alloc (Nat.le_refl _) _, News.one fun _ b hb => by have hb2 : b = w.heap.size := hb; omega⟩)⟩, faces_app _ _, ?_, .inr ?_⟩
  · simp [execOp, hop, Instr.alloc, zeroValue, runTI hi, hz, newVar, newRow]
  · have := hk.blk T (hv (faces hp)) h1
    simpa using this
  · simp [AV.val, Ce.val, ptrAt, face_new, Ch.face]

theorem box_ok (hf : FrOk (faces hp) fr a.tmps) (hk : HOk B hp w) {T : TypeId} {x : Operand} {l : List Ce} (hop : o.op = .box T x) (hl : parts1 (ev fr x) = some l) :
    Does P B hp a w o (.c (.ptr hp.length 0)) (hp.map Ch.ck ++ [.blk T l]) := by
  obtain ⟨h1, h2⟩ := parts1_ok hf hl
  refine ⟨_, .pointer (some ⟨w.heap.size, 0, none⟩), w.alloc (.cells (a.eval x).cells T), hp ++ [.blk w.heap.size T l], ?_, .inl rfl, ⟨by simp [Ch.ck], (fun _ => ⟨(Below.refl _ _).alloc (Nat.le_refl _) _, News.one fun _ b hb => by have hb2 : b = w.heap.size := hb; omega⟩)⟩, faces_app _ _, ?_, .inr ?_⟩
  · simp [execOp, hop, Instr.box, newVar, newRow]
  · have := hk.blk T h1 h2
    simpa using this
  · simp [AV.val, Ce.val, ptrAt, face_new, Ch.face]

theorem nilas_ok (hk : HOk B hp w) {E : TypeId} {e : El} (hop : o.op = .assign (.const (.slice none 0 0))) :
    Does P B hp a w o (.c (.sl hp.length)) (hp.map Ch.ck ++ [.own E e []]) := by
  refine ⟨_, .slice none 0 0, w, hp ++ [.own none 0 E e []], by simp [execOp, hop, Act.eval], .inl rfl, ⟨by simp [Ch.ck], fun _ => ⟨Below.refl _ _, News.one fun _ b hb => by obtain ⟨ad, h, _⟩ := hb; cases h⟩⟩, faces_app _ _, ?_, .inr ?_⟩
  · refine hk.push (Below.refl _ _) (World.ownsRow_nil w _ E e.sz) (fun b hb => ?_)
    obtain ⟨ad, h, _⟩ := hb
    cases h
  · simp [AV.val, Ce.val, face_new, Ch.face]

theorem fillV_eq : ∀ (l : List Value) (off : Nat) (vs : List Value), off + l.length ≤ vs.length → fillV off l vs = vs.take off ++ l ++ vs.drop (off + l.length) := by
  intro l
  induction l with
  | nil => intro off vs _; simp [fillV]
  | cons x l ih =>
    intro off vs h
    simp only [List.length_cons] at h
    rw [fillV, ih (off + 1) _ (by simp; omega)]
    have h1 : (vs.set off x).take (off + 1) = vs.take off ++ [x] := by
      rw [List.take_succ_eq_append_getElem (by simp; omega), List.take_set_of_le (by omega)]
      simp
    have h2 : (vs.set off x).drop (off + 1 + l.length) = vs.drop (off + 1 + l.length) := by
      rw [List.drop_set_of_lt (by omega)]
    rw [h1, h2]
    simp only [List.append_assoc, List.cons_append, List.nil_append, List.length_cons]
    congr 4
    omega

theorem bsl_ok (hf : FrOk (faces hp) fr a.tmps) {e : El} : ∀ {ps : List (Nat × Operand)} {n : Nat} {xs : List e.T} {vs : Array Value} {pre : List Value}, bsl fr e n ps = some xs → pre.length = n * e.sz → vs.toList.take (n * e.sz) = pre → vs.size = (n + xs.length) * e.sz →
    ∃ r, Instr.fill (fun i => some (i * e.sz, e.sz)) vs (ps.map fun (i, x) => (i, a.eval x)) = some r ∧ r.toList = pre ++ e.flat xs := by
  intro ps
  induction ps with
  | nil =>
    intro n xs vs pre h h1 h2 h3
    simp [bsl] at h
    subst h
    refine ⟨vs, rfl, ?_⟩
    rw [← h2, List.take_of_length_le (by simp at h3 ⊢; omega)]
    simp [El.flat]
  | cons p ps ih =>
    intro n xs vs pre h h1 h2 h3
    obtain ⟨i, x⟩ := p
    unfold bsl at h
    cases hb : Nat.beq i n with
    | false => rw [hb] at h; simp at h
    | true =>
      rw [hb] at h
      have e1 := Nat.eq_of_beq_eq_true hb
      subst e1
      simp only [cond_true] at h
      split at h
      · rename_i lx r hpx hr
        split at h
        · rename_i y hy
          injection h with h
          subst h
          obtain ⟨g1, g2⟩ := parts1_ok hf hpx
          have g3 := El.back_vals hy (faces hp)
          rw [g1] at g3
          injection g3 with g3
          have hlen : (a.eval x).cells.size = e.sz := by rw [← Array.length_toList, g3, e.vals_len]
          have hfold := foldl_fill (i * e.sz) (a.eval x).cells.toList 0 vs
          obtain ⟨cs', hcs'⟩ : ∃ cs', ((a.eval x).cells.zipIdx.foldl (fun cs (x : Value × Nat) => cs.setIfInBounds (i * e.sz + x.2) x.1) vs) = cs' := ⟨_, rfl⟩
          have e3 : cs'.toList = fillV (i * e.sz) (a.eval x).cells.toList vs.toList := by
            rw [← hcs', ← Array.foldl_toList, Array.toList_zipIdx]
            simpa using hfold
          have hsz : i * e.sz + e.sz ≤ vs.size := by
            rw [h3]; simp only [List.length_cons]
            have : (i + (r.length + 1)) * e.sz = i * e.sz + e.sz + r.length * e.sz := by rw [Nat.add_mul, Nat.add_mul]; omega
            omega
          rw [fillV_eq _ _ _ (by simp only [Array.length_toList, hlen]; omega), h2, g3] at e3
          have hs' : cs'.size = (i + 1 + r.length) * e.sz := by
            rw [← Array.length_toList, e3]
            simp only [List.length_append, h1, e.vals_len, List.length_drop, Array.length_toList, h3, List.length_cons]
            have : (i + (r.length + 1)) * e.sz = i * e.sz + e.sz + r.length * e.sz := by rw [Nat.add_mul, Nat.add_mul]; omega
            have : (i + 1 + r.length) * e.sz = i * e.sz + e.sz + r.length * e.sz := by rw [Nat.add_mul, Nat.add_mul]; omega
            omega
          obtain ⟨q, hq1, hq2⟩ := ih (vs := cs') (pre := pre ++ e.vals y) hr (by simp [h1, e.vals_len, Nat.succ_mul]) (by
            rw [e3]
            rw [List.take_append_of_le_length (by simp [h1, e.vals_len, Nat.succ_mul])]
            rw [List.take_of_length_le (by simp [h1, e.vals_len, Nat.succ_mul])]) hs'
          refine ⟨q, ?_, by rw [hq2]; simp [El.flat]⟩
          simp only [List.map_cons, Instr.fill]
          rw [if_neg (by simp; omega), hcs']
          exact hq1
        · cases h
      · cases h

theorem bsl_op (ht : TabOk P tb) (hf : FrOk (faces hp) fr a.tmps) (hk : HOk B hp w) {T E : TypeId} {n : Nat} {ps : Array (Nat × Operand)} {ti te : TI} {e : El} {xs : List e.T} (hop : o.op = .buildSlice T n ps) (hti : getTI tb T = some ti) (hE : ti.elem = some E)
    (hte : getTI tb E = some te) (he : te.el = some e) (hxs : bsl fr e 0 ps.toList = some xs) (hn : xs.length = n) (hbig : n ≤ 1000) :
    Does P B hp a w o (.c (.sl hp.length)) (hp.map Ch.ck ++ [.own E e xs]) := by
  obtain ⟨i, z, hi, hz, hs, _, hcs, hv, h1⟩ := (ht _ _ hte).info
  have hsz := ((ht _ _ hte).el e he).1
  have hpos := e.sz_pos
  have h4 : e.sz ≤ 4 := by cases e <;> decide
  have hu := (ht _ _ hti).slice hE
  rcases Nat.eq_zero_or_pos n with h0 | h0
  · subst h0
    have hxs0 : xs = [] := List.eq_nil_of_length_eq_zero hn
    subst hxs0
    have hps : ps = #[] := by
      obtain ⟨ps⟩ := ps
      cases ps with
      | nil => rfl
      | cons x r =>
        exfalso
        obtain ⟨x1, x2⟩ := x
        simp only [bsl] at hxs
        cases hb : Nat.beq x1 0 <;> rw [hb] at hxs
        · cases hxs
        · simp only [cond_true] at hxs
          split at hxs
          · split at hxs
            · injection hxs with hxs; cases hxs
            · cases hxs
          · cases hxs
    subst hps
    have hrun0 : (Instr.buildSlice T 0 #[]).run P w = .ok (.slice (some ⟨w.heap.size, 0, none⟩) 0 0) (w.alloc (.cells #[] E)) := by
      have e0 : ∀ f : Nat → Value, (Array.range 0).map f = #[] := fun f => Array.eq_empty_of_size_eq_zero (by simp)
      simp [Instr.buildSlice, run_underlying hu, sizeOf, typeInfo, hi, newRow, Instr.fill, e0]
    refine ⟨_, .slice (some ⟨w.heap.size, 0, none⟩) 0 0, _, hp ++ [.own (some ⟨w.heap.size, 0, none⟩) 0 E e []], by simp [execOp, hop, hrun0]; rfl, .inl rfl, ⟨by simp [Ch.ck], (fun _ => ⟨(Below.refl _ _).alloc (Nat.le_refl _) _, News.one fun _ b hb => by obtain ⟨ad, h, h'⟩ := hb; injection h with h; subst h; exact Nat.le_of_eq h'⟩)⟩, faces_app _ _, ?_, .inr ?_⟩
    · refine hk.push ((Below.refl _ _).alloc (Nat.le_refl _) _) ⟨e.flat_len [], .inr ⟨w.heap.size, 0, #[], rfl, hk.bel.size, heap_alloc_new w _, by simp, by simp only [maxLen]; omega, by simp, by simp [El.flat]⟩⟩ (fun b hb => ?_)
      obtain ⟨ad, h, h'⟩ := hb
      injection h with h
      subst h
      exact Nat.le_of_eq h'
    · simp [AV.val, Ce.val, face_new, Ch.face]
  obtain ⟨r, hr1, hr2⟩ := bsl_ok (vs := ((Array.range (n * i.size)).map (z.cells[· % z.cells.size]!))) (pre := []) hf hxs (by simp) (by simp) (by simp [hs, hsz, hn])
  have hrun := run_buildSlice w T E n (ps.map fun (i, x) => (i, a.eval x)) r i z ((ht _ _ hti).slice hE) hi hz (by rw [hs, hsz]; have := Nat.mul_le_mul hbig h4; omega) (by rw [hs, hsz]; intro h; rcases Nat.mul_eq_zero.1 h with h | h <;> omega) (by
    rw [hs, hsz] at hr1 ⊢; simpa using hr1)
  simp only [List.nil_append] at hr2
  have hrs : r.size = n * e.sz := by rw [← Array.length_toList, hr2, e.flat_len, hn]
  refine ⟨_, .slice (some ⟨w.heap.size, 0, none⟩) n n, _, hp ++ [.own (some ⟨w.heap.size, 0, none⟩) n E e xs], by simp [execOp, hop, hrun]; rfl, .inl rfl, ⟨by simp [Ch.ck], (fun _ => ⟨(Below.refl _ _).alloc (Nat.le_refl _) _, News.one fun _ b hb => by obtain ⟨ad, h, h'⟩ := hb; injection h with h; subst h; exact Nat.le_of_eq h'⟩)⟩, faces_app _ _, ?_, .inr ?_⟩
  · refine hk.push ((Below.refl _ _).alloc (Nat.le_refl _) _) ⟨e.flat_len xs, .inr ⟨w.heap.size, n, r, rfl, hk.bel.size, heap_alloc_new w _, by omega, by simp only [maxLen]; omega, hrs, ?_⟩⟩ (fun b hb => ?_)
    · rw [hr2, List.take_of_length_le (by rw [e.flat_len]; omega)]
    · obtain ⟨ad, h, h'⟩ := hb
      injection h with h
      subst h
      exact Nat.le_of_eq h'
  · simp [AV.val, Ce.val, face_new, Ch.face, hn]

theorem appC_eq : ∀ (l l' : List Ce), appC l l' = l ++ l' := by
  intro l; induction l with
  | nil => intro l'; rfl
  | cons x l ih => intro l'; simp [appC, ih]
theorem vals_app {fs : Faces} {l l' : List Ce} {vs vs' : List Value} (h : vals fs l = some vs) (h' : vals fs l' = some vs') : vals fs (l ++ l') = some (vs ++ vs') := by
  refine allv_iff.2 ?_
  rw [List.map_append, List.map_append, allv_iff.1 h, allv_iff.1 h']
theorem bsf_ok (hf : FrOk (faces hp) fr a.tmps) {sz : Nat} : ∀ {ps : List (Nat × Operand)} {n : Nat} {cs : List Ce} {vs : Array Value} {pre : List Value}, bsf fr sz n ps = some cs → pre.length = n * sz → vs.toList.take (n * sz) = pre → vs.size = (n + ps.length) * sz →
    ∃ r us, Instr.fill (fun i => some (i * sz, sz)) vs (ps.map fun (i, x) => (i, a.eval x)) = some r ∧ r.toList = pre ++ us ∧ vals (faces hp) cs = some us ∧ ∀ v ∈ us, v.oneCell' = true := by
  intro ps
  induction ps with
  | nil =>
    intro n cs vs pre h h1 h2 h3
    simp [bsf] at h
    subst h
    refine ⟨vs, [], rfl, ?_, rfl, by simp⟩
    rw [← h2, List.take_of_length_le (by simp at h3 ⊢; omega)]
    simp
  | cons p ps ih =>
    intro n cs vs pre h h1 h2 h3
    obtain ⟨i, x⟩ := p
    unfold bsf at h
    cases hb : Nat.beq i n with
    | false => rw [hb] at h; simp at h
    | true =>
      rw [hb] at h
      have e1 := Nat.eq_of_beq_eq_true hb
      subst e1
      simp only [cond_true] at h
      split at h
      · rename_i lx r hpx hr
        cases hbl : Nat.beq lx.length sz with
        | false => rw [hbl] at h; cases h
        | true =>
          rw [hbl] at h
          simp only [cond_true, Option.some.injEq] at h
          subst h
          have hll := Nat.eq_of_beq_eq_true hbl
          obtain ⟨g1, g2⟩ := parts1_ok hf hpx
          have hlen : (a.eval x).cells.size = sz := by rw [← Array.length_toList, vals_len g1, hll]
          have hfold := foldl_fill (i * sz) (a.eval x).cells.toList 0 vs
          obtain ⟨cs', hcs'⟩ : ∃ cs', ((a.eval x).cells.zipIdx.foldl (fun cs (x : Value × Nat) => cs.setIfInBounds (i * sz + x.2) x.1) vs) = cs' := ⟨_, rfl⟩
          have e3 : cs'.toList = fillV (i * sz) (a.eval x).cells.toList vs.toList := by
            rw [← hcs', ← Array.foldl_toList, Array.toList_zipIdx]
            simpa using hfold
          have hsz : i * sz + sz ≤ vs.size := by
            rw [h3]; simp only [List.length_cons]
            have : (i + (ps.length + 1)) * sz = i * sz + sz + ps.length * sz := by rw [Nat.add_mul, Nat.add_mul]; omega
            omega
          rw [fillV_eq _ _ _ (by simp only [Array.length_toList, hlen]; omega), h2] at e3
          have hs' : cs'.size = (i + 1 + ps.length) * sz := by
            rw [← Array.length_toList, e3]
            simp only [List.length_append, h1, List.length_drop, Array.length_toList, h3, List.length_cons, hlen]
            have : (i + (ps.length + 1)) * sz = i * sz + sz + ps.length * sz := by rw [Nat.add_mul, Nat.add_mul]; omega
            have : (i + 1 + ps.length) * sz = i * sz + sz + ps.length * sz := by rw [Nat.add_mul, Nat.add_mul]; omega
            omega
          obtain ⟨q, us, hq1, hq2, hq3, hq4⟩ := ih (vs := cs') (pre := pre ++ (a.eval x).cells.toList) hr (by simp [h1, hlen, Nat.succ_mul]) (by
            rw [e3]
            rw [List.take_append_of_le_length (by simp [h1, hlen, Nat.succ_mul])]
            rw [List.take_of_length_le (by simp [h1, hlen, Nat.succ_mul])]) hs'
          refine ⟨q, (a.eval x).cells.toList ++ us, ?_, by rw [hq2, List.append_assoc], by rw [appC_eq]; exact vals_app g1 hq3, fun v hv => ?_⟩
          · simp only [List.map_cons, Instr.fill]
            rw [if_neg (by simp; omega), hcs']
            exact hq1
          · rcases List.mem_append.1 hv with h9 | h9
            · exact g2 v h9
            · exact hq4 v h9
      · cases h
theorem bsf_op (ht : TabOk P tb) (hf : FrOk (faces hp) fr a.tmps) (hk : HOk B hp w) {T E : TypeId} {n : Nat} {ps : Array (Nat × Operand)} {ti te : TI} {cs : List Ce} (hop : o.op = .buildSlice T n ps) (hti : getTI tb T = some ti) (hE : ti.elem = some E)
    (hte : getTI tb E = some te) (hxs : bsf fr te.size 0 ps.toList = some cs) (hn : ps.toList.length = n) (hn0 : 0 < n) (hbig : n ≤ 1000) (hs0 : 0 < te.size) (hsb : te.size ≤ 1000) :
    Does P B hp a w o (.c (.asl hp.length n)) (hp.map Ch.ck ++ [.blk E cs]) := by
  obtain ⟨i, z, hi, hz, hs, _, hcs, hv, h1⟩ := (ht _ _ hte).info
  obtain ⟨r, us, hr1, hr2, hr3, hr4⟩ := bsf_ok (vs := ((Array.range (n * i.size)).map (z.cells[· % z.cells.size]!))) (pre := []) hf hxs (by simp) (by simp) (by simp [hs, ← hn])
  have hrun := run_buildSlice w T E n (ps.map fun (i, x) => (i, a.eval x)) r i z ((ht _ _ hti).slice hE) hi hz (by rw [hs]; have := Nat.mul_le_mul hbig hsb; omega) (by rw [hs]; intro h; rcases Nat.mul_eq_zero.1 h with h | h <;> omega) (by
    rw [hs] at hr1 ⊢; simpa using hr1)
  simp only [List.nil_append] at hr2
  have hra : us.toArray = r := by rw [← hr2]
  refine ⟨_, .slice (some ⟨w.heap.size, 0, none⟩) n n, _, hp ++ [.blk w.heap.size E cs], by simp [execOp, hop, hrun]; rfl, .inl rfl, ⟨by simp [Ch.ck], (fun _ => ⟨(Below.refl _ _).alloc (Nat.le_refl _) _, News.one fun _ b hb => by have hb2 : b = w.heap.size := hb; omega⟩)⟩, faces_app _ _, ?_, .inr ?_⟩
  · have := hk.blk E hr3 hr4
    rw [hra] at this
    exact this
  · simp [AV.val, Ce.val, face_new, Ch.face]

/-- append to what the call owns: where the new slice lies -/
theorem append_where (base : Nat) (t ty e : TypeId) (i : TypeInfo) (z : Value) (size bytes : Nat) (ht : P.underlying t = some (.slice e)) (hi : P.info? e = some i) (hz : i.zero = some z)
    (hsize : i.size = size) (hby : i.bytes = bytes) (hzs : z.cells.size = size) (hsz : 0 < size)
    (v : Value) (n : Nat) (xs : List Value) (hown : w.ownsRow base e size v n xs)
    (ad : Addr) (m c : Nat) (news : List Value) (hl : news.length = m * size) (hnews : ∀ j u, news[j]? = some u → w.cell? (ad.add j) = some u) (h1 : ∀ u ∈ news, u.oneCell' = true)
    (h63 : n + m ≤ maxLen) (hbytes : (n + m) * bytes ≤ 140737488355328) (hbase : base ≤ w.heap.size) :
    ∃ v' w', (Builtin.append_ #[t, t] ty #[v, .slice (some ad) m c]).run P w = .ok v' w' ∧ w'.ownsRow base e size v' (n + m) (xs ++ news) ∧ w.grownBy w' v.ownBlock ∧ (v'.ownBlock = v.ownBlock ∨ v'.ownBlock = some w.heap.size) := by
  obtain ⟨v', w', hr, h2, h3, h4⟩ := run_append_own (P := P) w base t ty e i z size bytes ht hi hz hsize hby hzs hsz v n xs hown ad m c news hl hnews h1 h63 hbytes hbase
  refine ⟨v', w', hr, h2, h3, ?_⟩
  rcases hown.2 with ⟨rfl, rfl⟩ | ⟨g, cap, cur, rfl, hbg, hg, hnc, hcm, hcs, htake⟩
  · have hx : xs = [] := List.eq_nil_of_length_eq_zero (by simpa using hown.1)
    subst hx
    obtain ⟨v2, w2, hr2, h5, _, _⟩ := run_append_own (P := P) w w.heap.size t ty e i z size bytes ht hi hz hsize hby hzs hsz (.slice none 0 0) 0 [] (World.ownsRow_nil w _ e size) ad m c news hl hnews h1 h63 hbytes (Nat.le_refl _)
    obtain ⟨v3, w3, hr3, h6, h7, _⟩ := run_append_own (P := P) w 0 t ty e i z size bytes ht hi hz hsize hby hzs hsz (.slice none 0 0) 0 [] (World.ownsRow_nil w _ e size) ad m c news hl hnews h1 h63 hbytes (Nat.zero_le _)
    rw [hr] at hr2
    injection hr2 with e1 e2
    subst e1; subst e2
    by_cases hm : m = 0
    · left
      rw [(h4.2 ⟨rfl, hm⟩)]
    · have hr4 := run_append_nil (P := P) w t ty e i z ht hi hz ad m c news (by rw [hl, hsize]) hnews (by omega) (by simp only [maxLen] at h63; omega) (by rw [hby]; have hb := hbytes; simp only [Nat.zero_add] at hb; omega)
      rw [hr] at hr4
      injection hr4 with e1 e2
      right
      rw [e1]; rfl
  · by_cases hroom : n + m ≤ cap
    · have hfit : n * i.size + news.length ≤ cur.size := by rw [hl, hcs, hsize, ← Nat.add_mul]; exact Nat.mul_le_mul_right _ hroom
      have hr2 := run_append_room (P := P) w t ty e i ht hi g n cap cur hg ad m c news (by rw [hl, hsize]) hnews h1 hroom hfit
      rw [hr] at hr2
      injection hr2 with e1 e2
      left; rw [e1]; rfl
    · have holds : ∀ j u, xs[j]? = some u → w.cell? ((⟨g, 0, none⟩ : Addr).add j) = some u := hown.cells (g := g) rfl
      have hr2 := run_append_grow (P := P) w t ty e i z ht hi hz ⟨g, 0, none⟩ n cap xs (by rw [hown.1, hsize]) holds ad m c news (by rw [hl, hsize]) hnews (by omega) (by simp only [maxLen] at h63; omega) (growslice_fits (by omega) (by rw [hby]; exact hbytes))
      rw [hr] at hr2
      injection hr2 with e1 e2
      right; rw [e1]; rfl

theorem faces_set {i : Nat} {c c' : Ch} (hi : hp[i]? = some c) (hf : c'.face = c.face) : faces (hp.set i c') = faces hp := by
  have hil : i < hp.length := (List.getElem?_eq_some_iff.1 hi).1
  have hd : hp[i] = c := by rw [List.getElem?_eq_getElem hil] at hi; injection hi
  simp only [faces, List.map_set, hf]
  refine List.ext_getElem? fun j => ?_
  rw [List.getElem?_set]
  split
  · rename_i e; subst e; simp [hil, hd]
  · rfl
theorem setK_eq : ∀ (l : List Ck) (n : Nat) (c : Ck), setK l n c = l.set n c := by
  intro l; induction l with
  | nil => intro n c; rfl
  | cons x l ih => intro n c; cases n <;> simp [setK, ih]
theorem own_touch {A : Option Addr} {cap : Nat} {T : TypeId} {e : El} {l : List e.T} {b n c : Nat} : (Ch.own A cap T e l).touch b ↔ (Value.slice A n c).ownBlock = some b := by
  cases A <;> simp [Ch.touch, Value.ownBlock]

/-- an own slice grows -/
theorem HOk.grow (hk : HOk B hp w) {i : Nat} {A : Option Addr} {c : Nat} {T : TypeId} {e : El} {l : List e.T} (hi : hp[i]? = some (.own A c T e l)) {w' : World} {A' : Option Addr} {c' : Nat} {l' : List e.T}
    (hown : w'.ownsRow B.heap.size T e.sz (.slice A' l'.length c') l'.length (e.flat l')) (hgr : w.grownBy w' (Value.slice A l.length c).ownBlock)
    (hw : (Value.slice A' l'.length c').ownBlock = (Value.slice A l.length c).ownBlock ∨ (Value.slice A' l'.length c').ownBlock = some w.heap.size) :
    HOk B (hp.set i (.gone (Ch.own A c T e l).face) ++ [.own A' c' T e l']) w' := by
  have h1 : HOk B (hp.set i (.gone (Ch.own A c T e l).face)) w' := by
    refine hk.change hi rfl rfl hgr.size hgr.os hgr.tape hgr.output (fun b hb hnt => hgr.block b hb (fun e => hnt ((own_touch (n := l.length) (c := c)).2 e.symm))) (fun b hb => hb.elim) trivial
  refine h1.push' (Below.refl _ _) hown (fun b hb j d hj hd => ?_)
  have hb' := (own_touch (n := l'.length) (c := c')).1 hb
  rw [List.getElem?_set] at hj
  split at hj
  · rename_i e1
    split at hj
    · injection hj with hj; subst hj; exact hd
    · cases hj
  · rename_i hne
    rcases hw with hw | hw
    · rw [hw] at hb'
      exact hk.sep i j _ d hne hi hj rfl b (own_touch.2 hb') hd
    · rw [hw] at hb'
      injection hb' with hb'
      have := Ch.touch_lt (hk.ok j d hj) hd
      omega

theorem el_cells_all (hk : HOk B hp w) {i : Nat} {e : El} {l : List e.T} (h : elOf (hp.map Ch.ck) i = some ⟨e, l⟩) {b o' : Nat} (hb : ∀ k f, eptAt (faces hp) i k f = some (.pointer (some ⟨b, o' + k * e.sz + f, none⟩))) :
    ∀ j u, (e.flat l)[j]? = some u → w.cell? ((⟨b, o', none⟩ : Addr).add j) = some u := by
  intro j u hj
  have hjl := (List.getElem?_eq_some_iff.1 hj).1
  rw [e.flat_len] at hjl
  have hz := e.sz_pos
  have hk1 : j / e.sz < l.length := Nat.div_lt_of_lt_mul (by rw [Nat.mul_comm]; exact hjl)
  obtain ⟨b', o2, h1, h2⟩ := el_cell (fun c hc => hk.ok i c hc) h hk1
  have h3 := h1 0
  rw [hb] at h3
  injection h3 with h3; injection h3 with h3; injection h3 with h3; injection h3 with h3 h4
  subst h3
  have hm : j % e.sz < e.sz := Nat.mod_lt _ hz
  have hdm : j / e.sz * e.sz + j % e.sz = j := by rw [Nat.mul_comm]; exact Nat.div_add_mod j e.sz
  obtain ⟨u', hu'⟩ : ∃ u', (e.vals (l.getD (j / e.sz) e.zero))[j % e.sz]? = some u' := ⟨_, List.getElem?_eq_getElem (by rw [e.vals_len]; exact hm)⟩
  have h5 := e.flat_at l _ _ _ hk1 hu'
  rw [hdm, hj] at h5
  injection h5 with h5
  subst h5
  have := h2 _ _ hu'
  rw [add_at']
  have e6 : o2 + j % e.sz = o' + j := by omega
  rw [e6] at this
  exact this

theorem app1_ok (ht : TabOk P tb) (hk : HOk B hp w) {T E : TypeId} {te : TI} {s x : Operand} {i j : Nat} {T' : TypeId} {e e' : El} {l l2 : List e.T} {v : AV} {ck : List Ck} {obs : List Prop}
    (hop : ∃ xs ts T2, o.op = .call ⟨.builtin .append, xs, ts⟩ ∧ xs.toList = [s, x] ∧ ts.toList = [T, T2] ∧ T2 = T) (hE : ∃ ti, getTI tb T = some ti ∧ ti.elem = some E) (hte : getTI tb E = some te) (he : te.el = some e')
    (e1 : (Ce.sl i).val (faces hp) = some (a.eval s)) (e2 : (Ce.sl j).val (faces hp) = some (a.eval x)) (hci : nthCk (hp.map Ch.ck) i = .own T' e l) (hcj : elOf (hp.map Ch.ck) j = some ⟨e, l2⟩)
    (hb64 : Nat.ble te.bytes 64 = true) (h : appendS.app1 std (hp.map Ch.ck) i T' e l l2 e' E = some (v, ck, obs)) (ho : All obs) : Does P B hp a w o v ck := by
  obtain ⟨xs, ts, T2, hop, h1, h2, rfl⟩ := hop
  have h1' : xs = #[s, x] := by cases xs; simpa using h1
  have h2' : ts = #[T2, T2] := by cases ts; simpa using h2
  subst h1'; subst h2'
  obtain ⟨ti, hti, hE⟩ := hE
  unfold appendS.app1 at h
  cases hb : (Nat.beq T' E && Nat.beq e.sz e'.sz) with
  | false => rw [hb] at h; simp at h
  | true =>
    rw [hb] at h
    simp only [cond_true, Option.some.injEq, Prod.mk.injEq] at h
    obtain ⟨rfl, rfl, rfl⟩ := h
    simp only [Bool.and_eq_true] at hb
    have b1 := Nat.eq_of_beq_eq_true hb.1
    have b2 := Nat.eq_of_beq_eq_true hb.2
    subst b1
    obtain ⟨d, hd, hc⟩ := nthCk_some hci (by simp)
    cases d <;> simp [Ch.ck] at hc
    rename_i A c T3 e3 l3
    obtain ⟨rfl, rfl, hc⟩ := hc
    cases hc
    have hown : w.ownsRow B.heap.size T3 e3.sz (.slice A l3.length c) l3.length (e3.flat l3) := hk.ok i _ hd
    have hfa : (faces hp)[i]? = some (Ch.own A c T3 e3 l3).face := by simp [faces, hd]
    simp only [Ce.val, hfa, Ch.face] at e1
    injection e1 with e1
    obtain ⟨it, z, hi, hz, hsz, hby, hcs, hzv, hz1⟩ := (ht _ _ hte).info
    have hes := ((ht _ _ hte).el e' he).1
    have hl1 : l3.length ≤ 1099511627776 := ho.1
    have hl2 : l2.length ≤ 1099511627776 := ho.2.1
    have hbytes : it.bytes ≤ 64 := by rw [hby]; exact Nat.le_of_ble_eq_true hb64
    rcases Nat.eq_zero_or_pos l2.length with h0 | h0
    · obtain ⟨A2, c2, e4⟩ := (sl_addr hk hcj e2).1
      have hl0 : l2 = [] := List.eq_nil_of_length_eq_zero h0
      subst hl0
      have key : ∃ w', (Builtin.append_ #[T2, T2] o.type #[.slice A l3.length c, a.eval x]).run P w = .ok (.slice A l3.length c) w' ∧ w' = w := by
        rw [e4]
        refine ⟨w, ?_, rfl⟩
        have hiz : it.size = e3.sz := by omega
        rcases hown.2 with ⟨h9, h8⟩ | ⟨g, cap, cur, hv, _, hg, hnc, hcm, hcs, _⟩
        · injection h9 with q1 q2 q3
          subst q1; subst q3
          cases A2 with
          | none => simp [Builtin.append_, run_underlying ((ht _ _ hti).slice hE), sizeOf, runTI hi, Builtin.lenOf, Builtin.firstCells, h8]
          | some ad => simp [Builtin.append_, run_underlying ((ht _ _ hti).slice hE), sizeOf, runTI hi, Builtin.lenOf, Builtin.firstCells, h8, loadCells, loadCellsFrom]
        · injection hv with q1 q2 q3
          subst q1; subst q3
          cases A2 with
          | none => simp [Builtin.append_, run_underlying ((ht _ _ hti).slice hE), sizeOf, runTI hi, Builtin.lenOf, Builtin.firstCells, hnc, storeCells]
          | some ad => simp [Builtin.append_, run_underlying ((ht _ _ hti).slice hE), sizeOf, runTI hi, Builtin.lenOf, Builtin.firstCells, hnc, storeCells, loadCells, loadCellsFrom]
      obtain ⟨w', hr, rfl⟩ := key
      refine ⟨.value (.slice A l3.length c), _, w', hp.set i (.gone (Ch.own A c T3 e3 l3).face) ++ [.own A c T3 e3 (l3 ++ [])], ?_, .inl rfl, ?_, ?_, ?_, .inr ?_⟩
      · simp [execOp, hop, resolve, invoke, builtin, ← e1, hr]
      · exact ⟨by simp [setK_eq, Ch.ck, std], fun h => by rw [hop] at h; cases h⟩
      · have := faces_app (hp.set i (.gone (Ch.own A c T3 e3 l3).face)) (.own A c T3 e3 (l3 ++ []))
        rw [faces_set (c' := .gone (Ch.own A c T3 e3 l3).face) hd rfl] at this
        exact this
      · rw [List.append_nil]
        exact hk.grow hd hown ⟨rfl, rfl, rfl, Nat.le_refl _, fun _ _ _ => rfl⟩ (.inl rfl)
      · have := face_new (hp.set i (.gone (Ch.own A c T3 e3 l3).face)) (.own A c T3 e3 (l3 ++ []))
        simp only [List.length_set] at this
        simp only [AV.val, Ce.val, List.length_map, this]
        simp [Ch.face]
    · obtain ⟨b, o', c2, e4, e5⟩ := (sl_addr hk hcj e2).2 h0
      obtain ⟨v', w', hr, hown', hgr, hwh⟩ := append_where (P := P) (w := w) B.heap.size T2 o.type T3 it z e3.sz it.bytes ((ht _ _ hti).slice hE) hi hz (by omega) rfl (by omega) e3.sz_pos _ l3.length (e3.flat l3) hown ⟨b, o', none⟩ l2.length c2 (e3.flat l2) (e3.flat_len l2)
        (el_cells_all hk hcj e5) (e3.flat_one l2) (by simp only [maxLen]; omega) (by have := Nat.mul_le_mul (show l3.length + l2.length ≤ 2199023255552 by omega) hbytes; omega) hk.bel.size
      rw [← e3.flat_app, ← List.length_append] at hown'
      obtain ⟨A', c', rfl⟩ : ∃ A' c', v' = .slice A' (l3 ++ l2).length c' := by
        rcases hown'.2 with ⟨_, h9⟩ | ⟨g, cap, cur, hv, _⟩
        · rw [List.length_append] at h9; omega
        · exact ⟨_, _, hv⟩
      refine ⟨.value (.slice A' (l3 ++ l2).length c'), _, w', hp.set i (.gone (Ch.own A c T3 e3 l3).face) ++ [.own A' c' T3 e3 (l3 ++ l2)], ?_, .inl rfl, ?_, ?_, hk.grow hd hown' hgr hwh, .inr ?_⟩
      · simp [execOp, hop, resolve, invoke, builtin, ← e1, e4, hr]
      · exact ⟨by simp [setK_eq, Ch.ck, std], fun h => by rw [hop] at h; cases h⟩
      · have := faces_app (hp.set i (.gone (Ch.own A c T3 e3 l3).face)) (.own A' c' T3 e3 (l3 ++ l2))
        rw [faces_set (c' := .gone (Ch.own A c T3 e3 l3).face) hd rfl] at this
        exact this
      · have := face_new (hp.set i (.gone (Ch.own A c T3 e3 l3).face)) (.own A' c' T3 e3 (l3 ++ l2))
        simp only [List.length_set] at this
        simp only [AV.val, Ce.val, List.length_map, this]
        rfl

theorem append_full (base : Nat) (t ty e : TypeId) (i : TypeInfo) (z : Value) (size : Nat) (ht : P.underlying t = some (.slice e)) (hi : P.info? e = some i) (hz : i.zero = some z)
    (hsize : i.size = size) (hzs : z.cells.size = size) (A : Option Addr) (n : Nat) (xs : List Value) (hl0 : xs.length = n * size) (hA : 0 < n → A ≠ none) (hxs : ∀ ad, A = some ad → ∀ j u, xs[j]? = some u → w.cell? (ad.add j) = some u)
    (as : Addr) (m c : Nat) (news : List Value) (hl : news.length = m * size) (hnews : ∀ j u, news[j]? = some u → w.cell? (as.add j) = some u) (hm : 0 < m)
    (h63 : n + m ≤ maxLen) (hbytes : (n + m) * i.bytes ≤ 140737488355328) (hbase : base ≤ w.heap.size) :
    ∃ A' c' w', (Builtin.append_ #[t, t] ty #[.slice A n n, .slice (some as) m c]).run P w = .ok (.slice A' (n + m) c') w' ∧ w'.ownsRow base e size (.slice A' (n + m) c') (n + m) (xs ++ news) ∧ w.grownBy w' none ∧ A' = some ⟨w.heap.size, 0, none⟩ := by
  subst hsize
  have hlen : (xs ++ news).length = (n + m) * i.size := by rw [List.length_append, hl0, hl, Nat.add_mul]
  have grown : ∀ (old : Nat), old < n + m →
      (w.drew.alloc (.cells (xs.toArray ++ news.toArray ++ Builtin.zeroCells z.cells (grownCap w (n + m) old e - (n + m))) e)).ownsRow base e i.size
        (.slice (some ⟨w.heap.size, 0, none⟩) (n + m) (grownCap w (n + m) old e)) (n + m) (xs ++ news) ∧
      w.grownBy (w.drew.alloc (.cells (xs.toArray ++ news.toArray ++ Builtin.zeroCells z.cells (grownCap w (n + m) old e - (n + m))) e)) none := by
    intro old ho
    have hge := grownCap_ge w (n + m) old e
    have hcm : grownCap w (n + m) old e ≤ maxLen := grownCap_le_maxLen w (n + m) old e h63
    refine ⟨⟨hlen, .inr ⟨w.heap.size, _, _, rfl, hbase, heap_alloc_new w.drew _, hge, hcm, ?_, ?_⟩⟩, ⟨rfl, rfl, rfl, by simp, fun k hk _ => by first | exact heap_alloc_old w.drew _ hk | exact heap_alloc_old w.drew _ k hk⟩⟩
    · simp only [Array.size_append, List.size_toArray, size_zeroCells, hzs, hl0, hl, ← Nat.add_mul]
      congr 1
      omega
    · simp only [Array.toList_append, List.append_assoc]
      rw [← List.append_assoc, ← hlen]
      exact List.take_left
  have hsmall : n + m ≤ 9223372036854775807 := by simp only [maxLen] at h63; omega
  cases A with
  | none =>
    have h0 : n = 0 := by rcases Nat.eq_zero_or_pos n with h | h; exact h; exact absurd rfl (hA h)
    subst h0
    have hx : xs = [] := List.eq_nil_of_length_eq_zero (by simpa using hl0)
    subst hx
    have hr := run_append_nil (P := P) w t ty e i z ht hi hz as m c news hl hnews (by omega) (by omega) (by have hb := hbytes; simp only [Nat.zero_add] at hb; omega)
    have hgr := grown 0 (by omega)
    simp only [Nat.zero_add, List.nil_append, Array.empty_append] at hgr ⊢
    exact ⟨_, _, _, hr, hgr.1, hgr.2, rfl⟩
  | some g =>
    have hr := run_append_grow (P := P) w t ty e i z ht hi hz g n n xs hl0 (hxs g rfl) as m c news hl hnews (by omega) (by omega) (growslice_fits (by omega) hbytes)
    have hgr := grown n (by omega)
    exact ⟨_, _, _, hr, hgr.1, hgr.2, rfl⟩
theorem app2_ok (ht : TabOk P tb) (hk : HOk B hp w) {T E : TypeId} {te : TI} {s x : Operand} {i j : Nat} {e e' : El} {l l2 : List e.T} {v : AV} {ck : List Ck} {obs : List Prop}
    (hop : ∃ xs ts T2, o.op = .call ⟨.builtin .append, xs, ts⟩ ∧ xs.toList = [s, x] ∧ ts.toList = [T, T2] ∧ T2 = T) (hE : ∃ ti, getTI tb T = some ti ∧ ti.elem = some E) (hte : getTI tb E = some te) (he : te.el = some e')
    (e1 : (Ce.sl i).val (faces hp) = some (a.eval s)) (e2 : (Ce.sl j).val (faces hp) = some (a.eval x)) (hci : nthCk (hp.map Ch.ck) i = .ful e l) (hcj : elOf (hp.map Ch.ck) j = some ⟨e, l2⟩)
    (hb64 : Nat.ble te.bytes 64 = true) (h : appendS.app2 std (hp.map Ch.ck) e l l2 e' E = some (v, ck, obs)) (ho : All obs) : Does P B hp a w o v ck := by
  obtain ⟨xs, ts, T2, hop, h1, h2, rfl⟩ := hop
  have h1' : xs = #[s, x] := by cases xs; simpa using h1
  have h2' : ts = #[T2, T2] := by cases ts; simpa using h2
  subst h1'; subst h2'
  obtain ⟨ti, hti, hE⟩ := hE
  unfold appendS.app2 at h
  cases hb : (Nat.beq e.sz e'.sz) with
  | false => rw [hb] at h; simp at h
  | true =>
    rw [hb] at h
    simp only [cond_true, Option.some.injEq, Prod.mk.injEq] at h
    obtain ⟨rfl, rfl, rfl⟩ := h
    have b2 := Nat.eq_of_beq_eq_true hb
    have hei : elOf (hp.map Ch.ck) i = some ⟨e, l⟩ := by unfold elOf; rw [hci]
    obtain ⟨d, hd, hc⟩ := nthCk_some hci (by simp)
    cases d <;> simp [Ch.ck] at hc
    rename_i A e3 l3
    obtain ⟨rfl, hc⟩ := hc
    cases hc
    obtain ⟨q1, q2, q3⟩ := hk.ok i _ hd
    have hfa : (faces hp)[i]? = some (Ch.ful A e3 l3).face := by simp [faces, hd]
    have e1' := e1
    simp only [Ce.val, hfa, Ch.face] at e1
    injection e1 with e1
    obtain ⟨it, z, hi, hz, hsz, hby, hcs, hzv, hz1⟩ := (ht _ _ hte).info
    have hes := ((ht _ _ hte).el e' he).1
    have hl1 : l3.length ≤ 1099511627776 := ho.1
    have hl2 : l2.length ≤ 1099511627776 := ho.2.1
    have h0 : 0 < l2.length := ho.2.2.1
    have hbytes : it.bytes ≤ 64 := by rw [hby]; exact Nat.le_of_ble_eq_true hb64
    obtain ⟨b, o', c2, e4, e5⟩ := (sl_addr hk hcj e2).2 h0
    obtain ⟨A', c', w', hr, hown', hgr, hA'⟩ := append_full (P := P) (w := w) B.heap.size T2 o.type E it z e3.sz ((ht _ _ hti).slice hE) hi hz (by omega) (by omega) A l3.length (e3.flat l3) (e3.flat_len l3)
      (fun h => by obtain ⟨b2, o2, h3, _⟩ := q3 h; rw [h3]; exact fun h => by cases h)
      (fun ad had => by
        rcases Nat.eq_zero_or_pos l3.length with hz | hz
        · have : l3 = [] := List.eq_nil_of_length_eq_zero hz
          subst this
          intro j u hj; simp [El.flat] at hj
        · obtain ⟨b2, o2, c3, k1, k2⟩ := (sl_addr hk hei e1').2 hz
          rw [← e1] at k1
          injection k1 with k1
          rw [had] at k1
          injection k1 with k1
          subst k1
          exact el_cells_all hk hei k2)
      ⟨b, o', none⟩ l2.length c2 (e3.flat l2) (e3.flat_len l2)
      (el_cells_all hk hcj e5) h0 (by simp only [maxLen]; omega) (by have := Nat.mul_le_mul (show l3.length + l2.length ≤ 2199023255552 by omega) hbytes; omega) hk.bel.size
    rw [← e3.flat_app, ← List.length_append] at hown'
    rw [← List.length_append] at hr
    refine ⟨.value (.slice A' (l3 ++ l2).length c'), _, w', hp ++ [.own A' c' E e3 (l3 ++ l2)], ?_, .inl rfl, ⟨by simp [Ch.ck, std], fun h => by rw [hop] at h; cases h⟩, faces_app _ _, ?_, .inr ?_⟩
    · simp [execOp, hop, resolve, invoke, builtin, ← e1, e4, hr]
    · refine hk.push ⟨hgr.os, hgr.tape, hgr.output, hgr.size, fun b hb => hgr.block b hb (by simp)⟩ hown' (fun b hb => ?_)
      obtain ⟨ad, h1, h2⟩ := hb
      rw [hA'] at h1
      injection h1 with h1
      subst h1
      exact Nat.le_of_eq h2
    · have := face_new hp (.own A' c' E e3 (l3 ++ l2))
      simp only [AV.val, Ce.val, List.length_map, this]
      rfl

theorem fillV_left : ∀ (l : List Value) (f : Nat) (xs ys : List Value), f + l.length ≤ xs.length → fillV f l (xs ++ ys) = fillV f l xs ++ ys := by
  intro l; induction l with
  | nil => intro f xs ys _; rfl
  | cons x l ih =>
    intro f xs ys h
    simp only [List.length_cons] at h
    rw [fillV, fillV, List.set_append_left _ _ (by omega), ih _ _ _ (by simp; omega)]
theorem fillV_right : ∀ (l : List Value) (f : Nat) (xs ys : List Value), fillV (xs.length + f) l (xs ++ ys) = xs ++ fillV f l ys := by
  intro l; induction l with
  | nil => intro f xs ys; rfl
  | cons x l ih =>
    intro f xs ys
    rw [fillV, fillV, List.set_append_right _ _ (by omega), Nat.add_assoc, ih]
    congr 3
    omega
theorem fillV_take : ∀ (l : List Value) (f n : Nat) (xs : List Value), f + l.length ≤ n → (fillV f l xs).take n = fillV f l (xs.take n) := by
  intro l; induction l with
  | nil => intro f n xs _; rfl
  | cons x l ih =>
    intro f n xs h
    simp only [List.length_cons] at h
    rw [fillV, fillV, ih _ _ _ (by omega), List.take_set]
theorem flat_set (e : El) {x : e.T} {f : Nat} {ls : List Value} (hf : f + ls.length ≤ e.sz) : ∀ (l : List e.T) (k : Nat), k < l.length → e.vals x = fillV f ls (e.vals (l.getD k e.zero)) → fillV (k * e.sz + f) ls (e.flat l) = e.flat (l.set k x) := by
  intro l
  induction l with
  | nil => intro k h; simp at h
  | cons y l ih =>
    intro k h hx
    cases k with
    | zero =>
      simp only [El.flat, List.flatMap_cons, Nat.zero_mul, Nat.zero_add, List.set_cons_zero]
      rw [fillV_left _ _ _ _ (by rw [e.vals_len]; exact hf), hx]
      simp
    | succ k =>
      have := ih k (by simpa using h) (by simpa using hx)
      simp only [El.flat, List.flatMap_cons, List.set_cons_succ] at this ⊢
      have e1 : (k + 1) * e.sz + f = (e.vals y).length + (k * e.sz + f) := by rw [e.vals_len, Nat.succ_mul]; omega
      rw [e1, fillV_right, this]

theorem storeVar_at {T : TypeId} {ti : TI} (ht : TiOk P T ti) {v : Value} (hsz : v.cells.size = ti.size) (h1 : ∀ u ∈ v.cells.toList, u.oneCell' = true) {g o' : Nat} {t : TypeId} {cur : Array Value} (hg : w.heap[g]? = some (.cells cur t (0, 0))) (hl : o' + ti.size ≤ cur.size) :
    (storeVar T ⟨g, o', none⟩ v).run P w = .ok () (w.setRow g (fillV o' v.cells.toList cur.toList).toArray) := by
  have h2 := run_storeCells_at P g o' t v.cells.toList 0 cur w hg (by simp [hsz]; omega) h1
  simp only [Nat.add_zero] at h2
  rw [fillV_eq _ _ _ (by simp [hsz]; omega)]
  simp only [storeVar, Sem.run_bind, ht.sz, Result.andThen_ok, hsz, ne_eq, not_true_eq_false, if_false]
  exact h2

theorem sto_ok' (ht : TabOk P tb) (hf : FrOk (faces hp) fr a.tmps) (hk : HOk B hp w) {T : TypeId} {p x : Operand} {l : List Ce} {v : AV} {ck : List Ck} {obs : List Prop} (hop : o.op = .store T p x) (hl : parts1 (ev fr x) = some l)
    (h : sto std tb (hp.map Ch.ck) T (ev fr p) l = some (v, ck, obs)) (ho : All obs) : ∃ w' i c c', (execOp a.eval o).run P w = .ok .skip w' ∧ v = undefA ∧ (hp.set i c').map Ch.ck = ck ∧ faces (hp.set i c') = faces hp ∧ HOk B (hp.set i c') w' ∧ ldIdx (ev fr p) = some i ∧ hp[i]? = some c ∧ c.wr = true ∧ (∀ b, c'.touch b → c.touch b) ∧
    (w'.os = w.os ∧ w'.tape = w.tape ∧ w'.output = w.output ∧ w.heap.size ≤ w'.heap.size ∧ ∀ b, b < w.heap.size → ¬ c.touch b → w'.heap[b]? = w.heap[b]?) := by
  obtain ⟨hv, h1⟩ := parts1_ok hf hl
  unfold sto at h
  split at h
  · rename_i ti hti
    cases hb : Nat.beq l.length ti.size with
    | false => rw [hb] at h; simp at h
    | true =>
      rw [hb] at h
      have b1 := Nat.eq_of_beq_eq_true hb
      have hsz : (a.eval x).cells.size = ti.size := by have := vals_len hv; rw [Array.length_toList] at this; omega
      simp only [cond_true] at h
      split at h
      · rename_i i j hx
        have e1 := ev_c hf hx
        split at h
        · rename_i T' cs hck
          obtain ⟨d, hd, hc⟩ := nthCk_some hck (by simp)
          cases d <;> simp [Ch.ck] at hc
          rename_i g T2 cs2
          obtain ⟨rfl, rfl⟩ := hc
          cases hb2 : Nat.ble (j + ti.size) cs2.length with
          | false => rw [hb2] at h; simp at h
          | true =>
            rw [hb2] at h
            simp only [cond_true, Option.some.injEq, Prod.mk.injEq] at h
            obtain ⟨rfl, rfl, rfl⟩ := h
            have b2 := Nat.le_of_ble_eq_true hb2
            obtain ⟨vs, g1, g2, g3, g4⟩ := hk.ok i _ hd
            have hvl := vals_len g1
            have hst := storeVar_at (ht _ _ hti) hsz h1 (o' := j) g2 (by simp; omega)
            have hnew := vals_fill j hv g1
            refine ⟨w.setRow g (fillV j (a.eval x).cells.toList vs).toArray, i, _, .blk g T2 (fillC j l cs2), ?_, rfl, by simp [setK_eq, Ch.ck], faces_set (c' := .blk g T2 (fillC j l cs2)) hd rfl, ?_, by rw [hx]; rfl, hd, rfl, fun b hb => hb, rfl, rfl, rfl, by simp, fun b hb hnt => setRow_other w g b _ (fun e => hnt e)⟩
            · simp [execOp, hop, ptr_val e1 hd, Instr.storeAt, Instr.sureAddr, hst]
            · refine hk.change hd rfl rfl (by simp) rfl rfl rfl (fun b hb hnt => setRow_other w g b _ (fun e => hnt e)) (fun b hb => .inl hb) ⟨_, hnew, ?_, g3, fillV_one _ _ _ h1 g4⟩
              exact setRow_heap w g _ _ _ _ g2
        · cases h
      · rename_i i k f hx
        have e1 := ev_c hf hx
        split at h
        · rename_i T' e xs hck
          obtain ⟨d, hd, hc⟩ := nthCk_some hck (by simp)
          cases d <;> simp [Ch.ck] at hc
          rename_i A c T2 e2 l2
          obtain ⟨rfl, rfl, hc⟩ := hc
          cases hc
          cases hb2 : Nat.ble (f + ti.size) e2.sz with
          | false => rw [hb2] at h; simp at h
          | true =>
            rw [hb2] at h
            have b2 := Nat.le_of_ble_eq_true hb2
            simp only [cond_true] at h
            split at h
            · rename_i y hy
              simp only [Option.some.injEq, Prod.mk.injEq] at h
              obtain ⟨rfl, rfl, rfl⟩ := h
              have hkl : k < l2.length := ho.1
              have hown : w.ownsRow B.heap.size T2 e2.sz (.slice A l2.length c) l2.length (e2.flat l2) := hk.ok i _ hd
              rcases hown.2 with ⟨_, h0⟩ | ⟨g, cap, cur, hv', hbg, hg, hnc, hcm, hcs, htake⟩
              · omega
              · injection hv' with q1 _ q3
                subst q1; subst q3
                have hfa : (faces hp)[i]? = some (Ch.own (some ⟨g, 0, none⟩) c T2 e2 l2).face := by simp [faces, hd]
                have e3 : a.eval p = .pointer (some ⟨g, k * e2.sz + f, none⟩) := by
                  simp only [Ce.val, eptAt, hfa, Ch.face] at e1
                  injection e1 with e1
                  rw [← e1, Nat.zero_add]
                have hkk : k * e2.sz + e2.sz ≤ l2.length * e2.sz := by have := Nat.mul_le_mul_right e2.sz (show k + 1 ≤ l2.length from hkl); rw [Nat.succ_mul] at this; exact this
                have hcc : l2.length * e2.sz ≤ c * e2.sz := Nat.mul_le_mul_right _ hnc
                have hst := storeVar_at (ht _ _ hti) hsz h1 (o' := k * e2.sz + f) hg (by omega)
                have hy1 := El.back_vals hy (faces hp)
                have hy2 := vals_fill f hv (e2.vals_cells (std .get e2 l2 k) (faces hp))
                rw [hy1] at hy2
                injection hy2 with hy2
                have hlen : (a.eval x).cells.toList.length = ti.size := by rw [Array.length_toList]; exact hsz
                have hfl := flat_set e2 (x := y) (f := f) (ls := (a.eval x).cells.toList) (by omega) l2 k hkl hy2
                refine ⟨w.setRow g (fillV (k * e2.sz + f) (a.eval x).cells.toList cur.toList).toArray, i, _, .own (some ⟨g, 0, none⟩) c T2 e2 (l2.set k y), ?_, rfl, by simp [setK_eq, Ch.ck, std], faces_set (c' := .own (some ⟨g, 0, none⟩) c T2 e2 (l2.set k y)) hd (by simp [Ch.face]), ?_, by rw [hx]; rfl, hd, rfl, fun b hb => hb, rfl, rfl, rfl, by simp, fun b hb hnt => setRow_other w g b _ (fun e => hnt ⟨_, rfl, e.symm⟩)⟩
                · simp [execOp, hop, e3, Instr.storeAt, Instr.sureAddr, hst]
                · refine hk.change hd rfl (by simp [Ch.face]) (by simp) rfl rfl rfl (fun b hb hnt => setRow_other w g b _ (fun e => hnt ⟨_, rfl, e.symm⟩)) (fun b hb => .inl hb) ⟨e2.flat_len _, .inr ⟨g, c, _, by simp, hbg, setRow_heap w g _ _ _ _ hg, by simpa using hnc, hcm, ?_, ?_⟩⟩
                  · simp [fillV_len, hcs]
                  · simp only [List.length_set]
                    rw [List.toList_toArray, fillV_take _ _ _ _ (by omega), htake, hfl]
            · cases h
        · cases h
      · cases h
  · cases h

/-! matrices that are the call's own -/
theorem ownsRow_put {base : Nat} {T : TypeId} {V : Value} {n : Nat} {xs : List Value} (h : w.ownsRow base T 1 V n xs) {k : Nat} (hk : k < n) :
    ∃ g cap cur, V = .slice (some ⟨g, 0, none⟩) n cap ∧ w.heap[g]? = some (.cells cur T (0, 0)) ∧ k < cur.size ∧ ∀ u, (w.setRow g (fillV k [u] cur.toList).toArray).ownsRow base T 1 V n (xs.set k u) := by
  rcases h.2 with ⟨_, h0⟩ | ⟨g, cap, cur, hv, hbg, hg, hnc, hcm, hcs, htake⟩
  · omega
  · refine ⟨g, cap, cur, hv, hg, by omega, fun u => ⟨by rw [List.length_set]; exact h.1, .inr ⟨g, cap, _, hv, hbg, setRow_heap w g _ _ _ _ hg, hnc, hcm, ?_, ?_⟩⟩⟩
    · simp [fillV, hcs]
    · simp only [fillV]
      rw [List.toList_toArray, List.take_set, htake]
theorem flat_put (l : List Int) (j : Nat) (x : Int) : El.i1.flat (l.set j x) = (El.i1.flat l).set j (.int .i64 x) := by
  rw [flat_m1, flat_m1, List.map_set]
theorem ownBlock_slice {A : Option Addr} {n c n' c' : Nat} {b : Nat} (h : (Value.slice A n c).ownBlock = some b) : (Value.slice A n' c').ownBlock = some b := by
  cases A <;> exact h
theorem stoM_ok' (ht : TabOk P tb) (hf : FrOk (faces hp) fr a.tmps) (hk : HOk B hp w) {T : TypeId} {p x : Operand} {l : List Ce} {v : AV} {ck : List Ck} {obs : List Prop} (hop : o.op = .store T p x) (hl : parts1 (ev fr x) = some l)
    (h : stoM std tb (hp.map Ch.ck) T (ev fr p) l = some (v, ck, obs)) (ho : All obs) : ∃ w' i c c', (execOp a.eval o).run P w = .ok .skip w' ∧ v = undefA ∧ (hp.set i c').map Ch.ck = ck ∧ faces (hp.set i c') = faces hp ∧ HOk B (hp.set i c') w' ∧ ldIdx (ev fr p) = some i ∧ hp[i]? = some c ∧ c.wr = true ∧ (∀ b, c'.touch b → c.touch b) ∧
    (w'.os = w.os ∧ w'.tape = w.tape ∧ w'.output = w.output ∧ w.heap.size ≤ w'.heap.size ∧ ∀ b, b < w.heap.size → ¬ c.touch b → w'.heap[b]? = w.heap[b]?) := by
  obtain ⟨hv, h1⟩ := parts1_ok hf hl
  unfold stoM at h
  split at h
  · rename_i i k j xx hx
    have e1 := ev_c hf hx
    split at h
    · rename_i T' U ll hck hz
      simp only [Option.some.injEq, Prod.mk.injEq] at h
      obtain ⟨rfl, rfl, rfl⟩ := h
      obtain ⟨d, hd, hc⟩ := nthCk_some hck (by simp)
      cases d <;> simp [Ch.ck] at hc
      rename_i A c T2 U2 rs ll2
      obtain ⟨rfl, rfl, rfl⟩ := hc
      obtain ⟨m1, m2, m3, m4, m5⟩ := hk.ok i _ hd
      have hfa : (faces hp)[i]? = some ⟨A, ll2.length, c, 1, rs⟩ := by simp [faces, hd, Ch.face]
      have hjl : j < (ll2.getD k []).length := ho.1
      have hcl : (a.eval x).cells.toList = [.int .i64 xx] := by simpa [vals, allv, Ce.val] using hv.symm
      obtain ⟨ti, hti, hts⟩ : ∃ ti, getTI tb T = some ti ∧ ti.size = 1 := by
        unfold stoM.szOne at hz
        split at hz
        · rename_i ti hti; exact ⟨ti, hti, Nat.eq_of_beq_eq_true hz⟩
        · cases hz
      simp only [Ce.val, rptAt] at e1
      split at e1
      · rename_i ad n cc hro
        injection e1 with e1
        have hrk := rowAt_some hfa hro
        have hkl := (List.getElem?_eq_some_iff.1 hrk).1
        have hlk : ll2[k]? = some (ll2.getD k []) := by rw [List.getD_eq_getElem?_getD, List.getElem?_eq_getElem (by omega)]; rfl
        obtain ⟨L, hL⟩ : ∃ L, ll2.getD k [] = L := ⟨_, rfl⟩
        rw [hL] at hjl hlk
        obtain ⟨g, cap, cur, hvg, hg, hcur, hput⟩ := ownsRow_put (m3 k _ L hrk hlk) hjl
        injection hvg with q1 q2 q3
        injection q1 with q1
        subst q1
        have hst := storeVar_at (ht _ _ hti) (v := a.eval x) (by rw [← Array.length_toList, hcl, hts]; rfl) h1 (o' := j) hg (by omega)
        rw [hcl] at hst
        have hown : (Value.slice (some ⟨g, 0, none⟩) n cc).ownBlock = some g := rfl
        have htg : mtwTouch A rs g := .inr ⟨k, _, hrk, hown⟩
        refine ⟨w.setRow g (fillV j [.int .i64 xx] cur.toList).toArray, i, _, .mtw A c T2 U2 rs (ll2.set k (L.set j xx)), ?_, rfl, by have e9 : std .get .v1 ll2 k = L := hL; rw [e9]; simp [setK_eq, Ch.ck, std], faces_set (c' := .mtw A c T2 U2 rs (ll2.set k (L.set j xx))) hd (by simp [Ch.face]), ?_, by rw [hx]; rfl, hd, rfl, fun b hb => hb, rfl, rfl, rfl, by simp, fun b hb hnt => setRow_other w g b _ (fun e => hnt (by rw [e]; exact htg))⟩
        · simp only [execOp, hop, ← e1, Instr.storeAt, Instr.sureAddr, Sem.run_bind, Sem.run_pure, Result.andThen_ok, Nat.zero_add, hst]
        · refine hk.change hd rfl (by simp [Ch.face]) (by simp) rfl rfl rfl (fun b hb hnt => setRow_other w g b _ (fun e => hnt (by rw [e]; exact htg))) (fun b hb => .inl hb) ?_
          refine ⟨by simpa using m1, ?_, fun k' v' l' hk' hl' => ?_, m4, m5⟩
          · rw [List.length_set]
            refine ownsRow_heap m2 fun b hb hlt => setRow_other w g b _ (fun e => ?_)
            subst e
            cases A with
            | none => cases hb
            | some ad => exact m4 k _ b hrk hown ad rfl (by injection hb)
          · rw [List.getElem?_set] at hl'
            split at hl'
            · rename_i e3
              subst e3
              rw [hrk] at hk'
              injection hk' with hk'
              subst hk'
              split at hl'
              · injection hl' with hl'
                subst hl'
                rw [flat_put, List.length_set]
                exact hput _
              · cases hl'
            · rename_i hne
              refine ownsRow_heap (m3 k' v' l' hk' hl') fun b hb hlt => setRow_other w g b _ (fun e => ?_)
              subst e
              exact m5 k k' _ v' b hne hrk hk' hown hb
      · cases e1
    · cases h
  · cases h
theorem stoA_ok' (ht : TabOk P tb) (hf : FrOk (faces hp) fr a.tmps) (hk : HOk B hp w) {T : TypeId} {p x : Operand} {l : List Ce} {v : AV} {ck : List Ck} {obs : List Prop} (hop : o.op = .store T p x) (hl : parts1 (ev fr x) = some l)
    (h : stoA std tb (hp.map Ch.ck) T (ev fr p) l = some (v, ck, obs)) (ho : All obs) : ∃ w' i c c', (execOp a.eval o).run P w = .ok .skip w' ∧ v = undefA ∧ (hp.set i c').map Ch.ck = ck ∧ faces (hp.set i c') = faces hp ∧ HOk B (hp.set i c') w' ∧ ldIdx (ev fr p) = some i ∧ hp[i]? = some c ∧ c.wr = true ∧ (∀ b, c'.touch b → c.touch b) ∧
    (w'.os = w.os ∧ w'.tape = w.tape ∧ w'.output = w.output ∧ w.heap.size ≤ w'.heap.size ∧ ∀ b, b < w.heap.size → ¬ c.touch b → w'.heap[b]? = w.heap[b]?) := by
  unfold stoA at h
  cases hs : sto std tb (hp.map Ch.ck) T (ev fr p) l with
  | some r => rw [hs] at h; exact sto_ok' ht hf hk hop hl (by rw [hs]; exact h) ho
  | none => rw [hs] at h; exact stoM_ok' ht hf hk hop hl h ho
/-- a row is laid into a matrix: what the blocks hold -/
theorem HOk.layRow (hk : HOk B hp w) {i j : Nat} {A Aj : Option Addr} {c cj : Nat} {T U : TypeId} {rs : List Value} {ll : List (List Int)} {l : List Int} (hi : hp[i]? = some (.mtw A c T U rs ll)) (hj : hp[j]? = some (.own Aj cj U .i1 l)) {k : Nat} (hkl : k < ll.length)
    {g cap : Nat} {cur : Array Value} (hA : (Value.slice A ll.length c) = .slice (some ⟨g, 0, none⟩) ll.length cap) {w' : World} (hw' : w' = w.setRow g (fillV k [.slice Aj l.length cj] cur.toList).toArray) (hput : w'.ownsRow B.heap.size T 1 (.slice A ll.length c) ll.length (rs.set k (.slice Aj l.length cj))) :
    HOk B ((hp.set j (.gone (Ch.own Aj cj U .i1 l).face)).set i (.gone (Ch.mtw A c T U rs ll).face) ++ [.mtw A c T U (rs.set k (.slice Aj l.length cj)) (ll.set k l)]) w' := by
  obtain ⟨m1, m2, m3, m4, m5⟩ := hk.ok i _ hi
  have hown : w.ownsRow B.heap.size U 1 (.slice Aj l.length cj) l.length (El.i1.flat l) := hk.ok j _ hj
  have hij : i ≠ j := fun e => by rw [e, hj] at hi; cases hi
  injection hA with q1 _ q3
  subst q1
  have htj : ∀ b, (Value.slice Aj l.length cj).ownBlock = some b → (Ch.own Aj cj U .i1 l).touch b := fun b hb => own_touch.2 hb
  have hoth : ∀ b, b ≠ g → w'.heap[b]? = w.heap[b]? := fun b hb => by rw [hw']; exact setRow_other w g b _ (fun e => hb e)
  have hgt : mtwTouch (some ⟨g, 0, none⟩) rs g := .inl ⟨_, rfl, rfl⟩
  have h1 : HOk B (hp.set j (.gone (Ch.own Aj cj U .i1 l).face)) w := hk.change hj rfl rfl (Nat.le_refl _) rfl rfl rfl (fun _ _ _ => rfl) (fun b hb => hb.elim) trivial
  have hi2 : (hp.set j (.gone (Ch.own Aj cj U .i1 l).face))[i]? = some (.mtw (some ⟨g, 0, none⟩) c T U rs ll) := by rw [List.getElem?_set, if_neg (fun e => hij e.symm)]; exact hi
  have h2 : HOk B ((hp.set j (.gone (Ch.own Aj cj U .i1 l).face)).set i (.gone (Ch.mtw (some ⟨g, 0, none⟩) c T U rs ll).face)) w' :=
    h1.change hi2 rfl rfl (by rw [hw']; simp) (by rw [hw']; rfl) (by rw [hw']; rfl) (by rw [hw']; rfl) (fun b hb hnt => hoth b (fun e => hnt (by rw [e]; exact hgt))) (fun b hb => hb.elim) trivial
  -- the new row lies elsewhere
  have hjg : ∀ b, (Value.slice Aj l.length cj).ownBlock = some b → b ≠ g := fun b hb e => hk.sep i j _ _ hij hi hj rfl g hgt (by rw [← e]; exact htj b hb)
  have hset : ∀ (k' : Nat) v', (rs.set k (.slice Aj l.length cj))[k']? = some v' → (k' = k ∧ v' = .slice Aj l.length cj) ∨ (k' ≠ k ∧ rs[k']? = some v') := fun k' v' h => by
    rw [List.getElem?_set] at h
    split at h
    · rename_i e
      split at h
      · injection h with h; exact .inl ⟨e.symm, h.symm⟩
      · cases h
    · rename_i e; exact .inr ⟨fun h => e h.symm, h⟩
  refine h2.push' (Below.refl _ _) ⟨by simpa using m1, ?_, fun k' v' l' hk' hl' => ?_, fun k' v' b hk' hb ad had => ?_, fun k' k2 v' v2 b hne hk' hk2 hb hb2 => ?_⟩ (fun b hb m d hm hd => ?_)
  · rw [List.length_set]; exact hput
  · rcases hset k' v' hk' with ⟨rfl, rfl⟩ | ⟨hne, hk'⟩
    · rw [List.getElem?_set, if_pos rfl, if_pos hkl] at hl'
      injection hl' with hl'
      subst hl'
      exact ownsRow_heap hown fun b hb _ => hoth b (hjg b hb)
    · rw [List.getElem?_set, if_neg (fun e => hne e.symm)] at hl'
      exact ownsRow_heap (m3 k' v' l' hk' hl') fun b hb _ => hoth b (fun e => m4 k' v' b hk' hb _ rfl e.symm)
  · injection had with had
    subst had
    rcases hset k' v' hk' with ⟨rfl, rfl⟩ | ⟨hne, hk'⟩
    · exact fun e => hjg b hb e.symm
    · exact m4 k' v' b hk' hb _ rfl
  · rcases hset k' v' hk' with ⟨e1, rfl⟩ | ⟨hn1, hk'⟩ <;> rcases hset k2 v2 hk2 with ⟨e2, rfl⟩ | ⟨hn2, hk2⟩
    · exact hne (e1.trans e2.symm)
    · exact hk.sep i j _ _ hij hi hj rfl b (.inr ⟨k2, v2, hk2, hb2⟩) (htj b hb)
    · exact hk.sep i j _ _ hij hi hj rfl b (.inr ⟨k', v', hk', hb⟩) (htj b hb2)
    · exact m5 k' k2 v' v2 b hne hk' hk2 hb hb2
  · have hmi : m ≠ i := fun e => by
      subst e
      rw [List.getElem?_set, if_pos rfl] at hm
      split at hm
      · injection hm with hm; subst hm; exact hd
      · cases hm
    rw [List.getElem?_set, if_neg (fun e => hmi e.symm)] at hm
    have hmj : m ≠ j := fun e => by
      subst e
      rw [List.getElem?_set, if_pos rfl] at hm
      split at hm
      · injection hm with hm; subst hm; exact hd
      · cases hm
    rw [List.getElem?_set, if_neg (fun e => hmj e.symm)] at hm
    rcases hb with ⟨ad, had, rfl⟩ | ⟨k', v', hk', hb⟩
    · exact hk.sep i m _ d (fun e => hmi e.symm) hi hm rfl _ (.inl ⟨ad, had, rfl⟩) hd
    · rcases hset k' v' hk' with ⟨rfl, rfl⟩ | ⟨_, hk'⟩
      · exact hk.sep j m _ d (fun e => hmj e.symm) hj hm rfl b (htj b hb) hd
      · exact hk.sep i m _ d (fun e => hmi e.symm) hi hm rfl b (.inr ⟨k', v', hk', hb⟩) hd

theorem sto_ok (ht : TabOk P tb) (hf : FrOk (faces hp) fr a.tmps) (hk : HOk B hp w) {T : TypeId} {p x : Operand} {l : List Ce} {v : AV} {ck : List Ck} {obs : List Prop} (hop : o.op = .store T p x) (hl : parts1 (ev fr x) = some l)
    (h : stoA std tb (hp.map Ch.ck) T (ev fr p) l = some (v, ck, obs)) (ho : All obs) : Does P B hp a w o v ck := by
  obtain ⟨w', i, c, c', h1, h2, h3, h4, h5, _⟩ := stoA_ok' ht hf hk hop hl h ho
  exact ⟨.skip, undef, w', hp.set i c', h1, .inr ⟨rfl, rfl⟩, ⟨h3, fun h => by rw [hop] at h; cases h⟩, by rw [h4]; exact FsLe.refl _, h5, by rw [h2]; exact .inr rfl⟩

theorem nilc_ok (ht : TabOk P tb) (hf : FrOk (faces hp) fr a.tmps) (hk : HOk B hp w) {bop : BinOp} {T ty : TypeId} {x y : Operand} {t : Bool} {p : Prop} (hop : o.op = .binOp bop T x y ty)
    (h : nilc std tb (hp.map Ch.ck) bop T (ev fr x) (ev fr y) = some (t, p)) : ∃ b : Bool, (execOp a.eval o).run P w = .ok (.value (.bool b)) w ∧ (b = t → p) := by
  unfold nilc at h
  split at h
  · rename_i i v hx hy
    split at h
    · rename_i e l E' hn he hE
      have hv : v = .slice none 0 0 := by
        unfold isNil at hn
        split at hn
        · rfl
        · cases hn
      subst hv
      obtain ⟨ti, hti, E, hE'⟩ : ∃ ti, getTI tb T = some ti ∧ ∃ E, ti.elem = some E := by
        unfold elemTI at hE
        split at hE
        · rename_i ti hti
          split at hE
          · rename_i E hE'
            exact ⟨ti, hti, E, hE'⟩
          · cases hE
        · cases hE
      have hu := (ht _ _ hti).slice hE'
      have hvx := ev_c hf hx
      have hvy := ev_c hf hy
      simp only [Ce.val, Option.some.injEq] at hvy
      obtain ⟨d, hd, hdc⟩ := elOf_some he
      have hok := hk.ok i d hd
      obtain ⟨A, c, hfa, hA⟩ : ∃ A c, d.face = ⟨A, l.length, c, e.sz, []⟩ ∧ (A = none → l.length = 0) := by
        rcases hdc with ⟨q, A, c, rfl⟩ | ⟨A, c, T', rfl⟩ | ⟨A, rfl⟩
        rotate_right
        · refine ⟨A, l.length, rfl, fun hA => ?_⟩
          obtain ⟨_, _, h3⟩ := hok
          rcases Nat.eq_zero_or_pos l.length with h0 | h0
          · exact h0
          · obtain ⟨b, o', ha, _⟩ := h3 h0
            rw [hA] at ha; cases ha
        · refine ⟨A, c, rfl, fun hA => ?_⟩
          obtain ⟨_, _, _, h3⟩ := hok
          rcases Nat.eq_zero_or_pos l.length with h0 | h0
          · exact h0
          · obtain ⟨b, o', ha, _⟩ := h3 h0
            rw [hA] at ha; cases ha
        · refine ⟨A, c, rfl, fun hA => ?_⟩
          rcases hok.2 with ⟨_, h2⟩ | ⟨g, cap, cur, hv, _⟩
          · exact h2
          · injection hv with hv; rw [hA] at hv; cases hv
      have hfi : (faces hp)[i]? = some ⟨A, l.length, c, e.sz, []⟩ := by simp [faces, hd, hfa]
      simp only [Ce.val, hfi, Option.some.injEq] at hvx
      have hzero : A = none → std .eq (std .ofNat (std .len e l)) 0 = true := fun hAn => by
        have := hA hAn
        simp [std, this]
      split at h
      · simp only [Option.some.injEq, Prod.mk.injEq] at h
        obtain ⟨rfl, rfl⟩ := h
        refine ⟨A.isNone, ?_, fun hb => hzero (by simpa using hb)⟩
        simp [execOp, hop, ← hvx, ← hvy, eqGuard, binOp, run_equal_slice_nil _ _ _ _ _ _ hu]
      · simp only [Option.some.injEq, Prod.mk.injEq] at h
        obtain ⟨rfl, rfl⟩ := h
        refine ⟨!A.isNone, ?_, fun hb => hzero (by simpa using hb)⟩
        simp [execOp, hop, ← hvx, ← hvy, eqGuard, binOp, run_equal_slice_nil _ _ _ _ _ _ hu]
      · cases h
    · cases h
  · cases h
theorem nil2_ok (ht : TabOk P tb) (hf : FrOk (faces hp) fr a.tmps) {bop : BinOp} {T ty : TypeId} {x y : Operand} {t : Bool} (hop : o.op = .binOp bop T x y ty)
    (h : nil2 tb bop T (ev fr x) (ev fr y) = some t) : (execOp a.eval o).run P w = .ok (.value (.bool t)) w := by
  have nl : ∀ {v : Value}, isNil v = true → v = .slice none 0 0 := fun {v} hn => by
    unfold isNil at hn
    split at hn
    · rfl
    · cases hn
  unfold nil2 at h
  split at h
  · rename_i v v' hx hy
    split at h
    · rename_i E' hn hn' hE
      have hv := nl hn
      have hv' := nl hn'
      subst hv
      subst hv'
      obtain ⟨ti, hti, E, hE'⟩ : ∃ ti, getTI tb T = some ti ∧ ∃ E, ti.elem = some E := by
        unfold elemTI at hE
        split at hE
        · rename_i ti hti
          split at hE
          · rename_i E hE'
            exact ⟨ti, hti, E, hE'⟩
          · cases hE
        · cases hE
      have hu := (ht _ _ hti).slice hE'
      have hvx := ev_c hf hx
      have hvy := ev_c hf hy
      simp only [Ce.val, Option.some.injEq] at hvx hvy
      split at h
      · injection h with h
        subst h
        simp [execOp, hop, ← hvx, ← hvy, eqGuard, binOp, run_equal_slice_nil _ _ _ _ _ _ hu]
      · injection h with h
        subst h
        simp [execOp, hop, ← hvx, ← hvy, eqGuard, binOp, run_equal_slice_nil _ _ _ _ _ _ hu]
      · cases h
    · cases h
  · cases h
theorem HOk.pushR {B w : World} {hp : List Ch} {c : Ch} (h : HOk B hp w) (hc : ChOk B w (faces (hp ++ [c])) c) (hw : c.wr = false) (hn : ∀ b, c.touch b → ∀ (j : Nat) d, hp[j]? = some d → d.wr = true → ¬ d.touch b) : HOk B (hp ++ [c]) w := by
  have hf : FsLe (faces hp) (faces (hp ++ [c])) := by simp only [faces, List.map_append]; exact FsLe.app _ _
  have key : ∀ (i : Nat) d, (hp ++ [c])[i]? = some d → (i < hp.length ∧ hp[i]? = some d) ∨ (i = hp.length ∧ d = c) := fun i d hd => by
    rcases Nat.lt_or_ge i hp.length with hi | hi
    · rw [List.getElem?_append_left hi] at hd; exact .inl ⟨hi, hd⟩
    · rw [List.getElem?_append_right hi] at hd
      cases hq : i - hp.length with
      | zero => rw [hq] at hd; simp at hd; exact .inr ⟨by omega, hd.symm⟩
      | succ n => rw [hq] at hd; simp at hd
  refine ⟨h.bel, fun i d hd => ?_, fun i j d e hij hd he hwd b h1 h2 => ?_⟩
  · rcases key i d hd with ⟨_, hd'⟩ | ⟨_, rfl⟩
    · exact (h.ok i d hd').mono hf
    · exact hc
  · rcases key i d hd with ⟨hi, hd'⟩ | ⟨hi, rfl⟩
    · rcases key j e he with ⟨hj, he'⟩ | ⟨hj, rfl⟩
      · exact h.sep i j d e hij hd' he' hwd b h1 h2
      · exact hn b h2 i d hd' hwd h1
    · rw [hw] at hwd; cases hwd
theorem cut_len {α : Type} (l : List α) {x y : Nat} (hxy : x ≤ y) (hy : y ≤ l.length) : ((l.drop x).take (y - x)).length = y - x := by
  rw [List.length_take, List.length_drop]; omega
theorem cut_getD {α : Type} (l : List α) (z : α) {x y k : Nat} (hk : k < y - x) : ((l.drop x).take (y - x)).getD k z = l.getD (x + k) z := by
  simp [List.getD_eq_getElem?_getD, hk, List.getElem?_drop]
theorem arr_cut (hk : HOk B hp w) {i : Nat} {q : Bool} {A : Option Addr} {c : Nat} {e : El} {l : List e.T} (hi : hp[i]? = some (.arr q A c e l)) {x y : Nat} (hxy : x ≤ y) (hy : y ≤ l.length) :
    HOk B (hp ++ [.arr q (if c = x then A else A.map (·.add (x * e.sz))) (c - x) e ((l.drop x).take (y - x))]) w := by
  obtain ⟨h1, h2, h3, h4⟩ := hk.ok i _ hi
  have hlen := cut_len l hxy hy
  have hA : 0 < y - x → ∃ b o, A = some ⟨b, o, none⟩ ∧ (if c = x then A else A.map (·.add (x * e.sz))) = some ⟨b, o + x * e.sz, none⟩ ∧ ∀ k, k < l.length → ∀ (f : Nat) v, (e.vals (l.getD k e.zero))[f]? = some v → w.cell? ⟨b, o + k * e.sz + f, none⟩ = some v := fun h => by
    obtain ⟨b, o, ha, hc⟩ := h4 (by omega)
    refine ⟨b, o, ha, ?_, hc⟩
    rw [if_neg (by omega), ha]
    simp [add_at']
  refine hk.pushR ⟨fun hq ad had h0 => ?_, by rw [hlen]; omega, by omega, fun h0 => ?_⟩ rfl (fun b hb j d hj hdw hdb => ?_)
  · rw [hlen] at h0
    obtain ⟨b, o, ha, hA', _⟩ := hA h0
    rw [hA'] at had
    injection had with had
    subst had
    exact h1 hq ⟨b, o, none⟩ ha (by omega)
  · rw [hlen] at h0
    obtain ⟨b, o, ha, hA', hc⟩ := hA h0
    refine ⟨b, o + x * e.sz, hA', fun k hkl f v hv => ?_⟩
    rw [hlen] at hkl
    rw [cut_getD l e.zero hkl] at hv
    have := hc (x + k) (by omega) f v hv
    have e1 : o + x * e.sz + k * e.sz + f = o + (x + k) * e.sz + f := by rw [Nat.add_mul]; omega
    rw [e1]; exact this
  · obtain ⟨h0, ad, had, hab⟩ := hb
    rw [hlen] at h0
    obtain ⟨b', o, ha, hA', _⟩ := hA h0
    rw [hA'] at had
    injection had with had
    subst had
    by_cases hji : j = i
    · subst hji
      rw [hi] at hj
      injection hj with hj
      subst hj
      cases hdw
    · exact hk.sep j i d _ hji hj hi hdw b hdb ⟨by omega, _, ha, hab⟩
theorem elemTI_ok {T E : TypeId} {te : TI} (hE : elemTI tb T = some (E, te)) : (∃ ti, getTI tb T = some ti ∧ ti.elem = some E) ∧ getTI tb E = some te := by
  unfold elemTI at hE
  split at hE
  · rename_i ti hti
    split at hE
    · rename_i E' hE'
      split at hE
      · rename_i te' hte
        simp only [Option.some.injEq, Prod.mk.injEq] at hE
        obtain ⟨rfl, rfl⟩ := hE
        exact ⟨⟨ti, hti, hE'⟩, hte⟩
      · cases hE
    · cases hE
  · cases hE
theorem arr_cut3 (hk : HOk B hp w) {i : Nat} {q : Bool} {A : Option Addr} {c : Nat} {e : El} {l : List e.T} (hi : hp[i]? = some (.arr q A c e l)) {x y m : Nat} (hxy : x ≤ y) (hy : y ≤ l.length) (hm : y ≤ m) (hmc : m ≤ c) :
    HOk B (hp ++ [.arr q (if m = x then A else A.map (·.add (x * e.sz))) (m - x) e ((l.drop x).take (y - x))]) w := by
  obtain ⟨h1, h2, h3, h4⟩ := hk.ok i _ hi
  have hlen := cut_len l hxy hy
  have hA : 0 < y - x → ∃ b o, A = some ⟨b, o, none⟩ ∧ (if m = x then A else A.map (·.add (x * e.sz))) = some ⟨b, o + x * e.sz, none⟩ ∧ ∀ k, k < l.length → ∀ (f : Nat) v, (e.vals (l.getD k e.zero))[f]? = some v → w.cell? ⟨b, o + k * e.sz + f, none⟩ = some v := fun h => by
    obtain ⟨b, o, ha, hc⟩ := h4 (by omega)
    refine ⟨b, o, ha, ?_, hc⟩
    rw [if_neg (by omega), ha]
    simp [add_at']
  refine hk.pushR ⟨fun hq ad had h0 => ?_, by rw [hlen]; omega, by omega, fun h0 => ?_⟩ rfl (fun b hb j d hj hdw hdb => ?_)
  · rw [hlen] at h0
    obtain ⟨b, o, ha, hA', _⟩ := hA h0
    rw [hA'] at had
    injection had with had
    subst had
    exact h1 hq ⟨b, o, none⟩ ha (by omega)
  · rw [hlen] at h0
    obtain ⟨b, o, ha, hA', hc⟩ := hA h0
    refine ⟨b, o + x * e.sz, hA', fun k hkl f v hv => ?_⟩
    rw [hlen] at hkl
    rw [cut_getD l e.zero hkl] at hv
    have := hc (x + k) (by omega) f v hv
    have e1 : o + x * e.sz + k * e.sz + f = o + (x + k) * e.sz + f := by rw [Nat.add_mul]; omega
    rw [e1]; exact this
  · obtain ⟨h0, ad, had, hab⟩ := hb
    rw [hlen] at h0
    obtain ⟨b', o, ha, hA', _⟩ := hA h0
    rw [hA'] at had
    injection had with had
    subst had
    by_cases hji : j = i
    · subst hji
      rw [hi] at hj
      injection hj with hj
      subst hj
      cases hdw
    · exact hk.sep j i d _ hji hj hi hdw b hdb ⟨by omega, _, ha, hab⟩
theorem HOk.toFul {A : Option Addr} {n : Nat} {e : El} {l : List e.T} (h : HOk B (hp ++ [.arr true A n e l]) w) (hn : l.length = n) : HOk B (hp ++ [.ful A e l]) w := by
  subst hn
  have hfs : faces (hp ++ [.ful A e l]) = faces (hp ++ [.arr true A l.length e l]) := by simp [faces, Ch.face]
  have key : ∀ (i : Nat) d, (hp ++ [Ch.ful A e l])[i]? = some d → (i < hp.length ∧ (hp ++ [Ch.arr true A l.length e l])[i]? = some d) ∨ (i = hp.length ∧ d = .ful A e l ∧ (hp ++ [Ch.arr true A l.length e l])[i]? = some (.arr true A l.length e l)) := fun i d hd => by
    rcases Nat.lt_or_ge i hp.length with hi | hi
    · rw [List.getElem?_append_left hi] at hd; exact .inl ⟨hi, by rw [List.getElem?_append_left hi]; exact hd⟩
    · rw [List.getElem?_append_right hi] at hd ⊢
      cases hq : i - hp.length with
      | zero => rw [hq] at hd; simp at hd; exact .inr ⟨by omega, hd.symm, by simp⟩
      | succ n => rw [hq] at hd; simp at hd
  refine ⟨h.bel, fun i d hd => ?_, fun i j d e' hij hd he hw b h1 h2 => ?_⟩
  · rw [hfs]
    rcases key i d hd with ⟨_, h1⟩ | ⟨_, rfl, h1⟩
    · exact h.ok i d h1
    · obtain ⟨g1, g2, g3, g4⟩ := h.ok i _ h1
      exact ⟨fun ad => g1 rfl ad, g3, g4⟩
  · rcases key i d hd with ⟨_, k1⟩ | ⟨_, rfl, k1⟩
    · rcases key j e' he with ⟨_, k2⟩ | ⟨_, rfl, k2⟩
      · exact h.sep i j d e' hij k1 k2 hw b h1 h2
      · exact h.sep i j d _ hij k1 k2 hw b h1 h2
    · cases hw
theorem slc3_ok (ht : TabOk P tb) (hf : FrOk (faces hp) fr a.tmps) (hk : HOk B hp w) {T : TypeId} {x hi mx : Operand} {lo : Option Operand} {v : AV} {ck : List Ck} {obs : List Prop} (hop : o.op = .slice T x lo (some hi) (some mx))
    (h : slc3 std tb (hp.map Ch.ck) T (ev fr x) (evO fr lo) (ev fr hi) (ev fr mx) = some (v, ck, obs)) (ho : All obs) : Does P B hp a w o v ck ∧ ∃ u, ∀ z, (execOp a.eval o).run P z = .ok (.value u) z := by
  unfold slc3 at h
  split at h
  · rename_i i hx
    split at h
    · rename_i q e l E te hci hE
      cases hsz : Nat.beq te.size e.sz with
      | false => rw [hsz] at h; simp at h
      | true =>
        rw [hsz] at h
        simp only [cond_true] at h
        have hs1 := Nat.eq_of_beq_eq_true hsz
        obtain ⟨⟨ti, hti, hE'⟩, hte⟩ := elemTI_ok hE
        have hu := (ht _ _ hti).slice hE'
        have hel : P.elem T = E := by simp [Program.elem, hu]
        have hu' : P.underlying T = some (.slice (P.elem T)) := by rw [hel]; exact hu
        have hzz : ∀ w, (sizeOf (P.elem T)).run P w = .ok e.sz w := fun w => by rw [hel, ← hs1]; exact (ht _ _ hte).sz w
        obtain ⟨d, hd, hdc⟩ := nthCk_some hci (by simp)
        cases d <;> simp [Ch.ck] at hdc
        rename_i q' A c e' l'
        obtain ⟨rfl, rfl, hdc⟩ := hdc
        cases hdc
        have hval := ev_c hf hx
        have hfa : (faces hp)[i]? = some ⟨A, l'.length, c, e'.sz, []⟩ := by simp [faces, hd, Ch.face]
        simp only [Ce.val, hfa, Option.some.injEq] at hval
        have hcap := (hk.ok i _ hd).2.1
        have fin : ∀ (x' y m : Nat), x' ≤ y → y ≤ l'.length → y ≤ m → m ≤ c → v = .c (.sl hp.length) → ck = hp.map Ch.ck ++ [.arr q' e' ((l'.drop x').take (y - x'))] →
            (∀ z, (Instr.slice T (.slice A l'.length c) (lo.map a.eval) (some (a.eval hi)) (some (a.eval mx))).run P z = .ok (sliced A x' y m e'.sz) z) → Does P B hp a w o v ck ∧ ∃ u, ∀ z, (execOp a.eval o).run P z = .ok (.value u) z := by
          intro x' y m h1 h2 h3 h4 hv hck hrun
          subst hv
          have hlen := cut_len l' h1 h2
          have hall : ∀ z, (execOp a.eval o).run P z = .ok (.value (sliced A x' y m e'.sz)) z := fun z => by simp [execOp, hop, ← hval, run_sliceAt_slice, hu', hrun]
          refine ⟨?_, _, hall⟩
          refine ⟨_, sliced A x' y m e'.sz, w, hp ++ [.arr q' (if m = x' then A else A.map (·.add (x' * e'.sz))) (m - x') e' ((l'.drop x').take (y - x'))], ?_, .inl rfl, ⟨by rw [hck]; simp [Ch.ck], fun _ => ⟨Below.refl _ _, News.one fun h => by cases h⟩⟩, faces_app _ _, arr_cut3 hk hd h1 h2 h3 h4, .inr ?_⟩
          · exact hall w
          · simp only [AV.val, Ce.val, face_new, Ch.face, hlen]
            rfl
        have finF : ∀ (x' y : Nat), x' ≤ y → y ≤ l'.length → q' = true → v = .c (.sl hp.length) → ck = hp.map Ch.ck ++ [.ful e' ((l'.drop x').take (y - x'))] →
            (∀ z, (Instr.slice T (.slice A l'.length c) (lo.map a.eval) (some (a.eval hi)) (some (a.eval mx))).run P z = .ok (sliced A x' y y e'.sz) z) → Does P B hp a w o v ck ∧ ∃ u, ∀ z, (execOp a.eval o).run P z = .ok (.value u) z := by
          intro x' y h1 h2 hq hv hck hrun
          subst hv; subst hq
          have hlen := cut_len l' h1 h2
          have hall : ∀ z, (execOp a.eval o).run P z = .ok (.value (sliced A x' y y e'.sz)) z := fun z => by simp [execOp, hop, ← hval, run_sliceAt_slice, hu', hrun]
          refine ⟨?_, _, hall⟩
          have h3 := arr_cut3 hk hd h1 h2 (Nat.le_refl y) (Nat.le_trans h2 hcap)
          refine ⟨_, sliced A x' y y e'.sz, w, hp ++ [.ful (if y = x' then A else A.map (·.add (x' * e'.sz))) e' ((l'.drop x').take (y - x'))], ?_, .inl rfl, ⟨by rw [hck]; simp [Ch.ck], fun _ => ⟨Below.refl _ _, News.one fun h => by cases h⟩⟩, faces_app _ _, HOk.toFul h3 hlen, .inr ?_⟩
          · exact hall w
          · simp only [AV.val, Ce.val, face_new, Ch.face, hlen]
            rfl
        split at h
        · rename_i k2 n2 k3 n3 hlo hhi hmx
          have e1 : lo = none := by cases lo with | none => rfl | some => cases hlo
          subst e1
          have hv2 := int_val (ev_c hf hhi)
          have hv3 := int_val (ev_c hf hmx)
          simp only [Option.some.injEq, Prod.mk.injEq, List.length_map] at h
          obtain ⟨rfl, rfl, rfl⟩ := h
          have hr : 0 ≤ n3 ∧ n3 ≤ (l'.length : Int) := ho.1
          have hr2 : 0 ≤ n2 ∧ n2 ≤ (n3.toNat : Int) := ho.2.1
          have hr3 : 0 ≤ n3 ∧ n3 ≤ (n2.toNat : Int) := ho.2.2.1
          have e23 : n3 = n2 := by omega
          subst e23
          refine finF 0 n3.toNat (Nat.zero_le _) (by omega) rfl rfl rfl (fun z => ?_)
          simp only [Option.map_none, hv2, hv3]
          rw [run_slice_hm _ _ _ _ _ hu' _ _ _ _ hr2.1 (by omega) (by omega), hzz]
          rfl
        · rename_i k1 n1 k2 n2 k3 n3 hlo hhi hmx
          obtain ⟨xl, rfl⟩ : ∃ xl, lo = some xl := by cases lo with | none => cases hlo | some xl => exact ⟨xl, rfl⟩
          simp only [evO, Option.some.injEq] at hlo
          have hv1 := int_val (ev_c hf hlo)
          have hv2 := int_val (ev_c hf hhi)
          have hv3 := int_val (ev_c hf hmx)
          simp only [Option.some.injEq, Prod.mk.injEq, List.length_map] at h
          obtain ⟨rfl, rfl, rfl⟩ := h
          have hr : 0 ≤ n3 ∧ n3 ≤ (l'.length : Int) := ho.1
          have hr2 : 0 ≤ n2 ∧ n2 ≤ (n3.toNat : Int) := ho.2.1
          have hr3 : 0 ≤ n1 ∧ n1 ≤ (n2.toNat : Int) := ho.2.2.1
          have hr4 : 0 ≤ n3 ∧ n3 ≤ (n2.toNat : Int) := ho.2.2.2.1
          have e23 : n3 = n2 := by omega
          subst e23
          refine finF n1.toNat n3.toNat (by omega) (by omega) rfl rfl rfl (fun z => ?_)
          simp only [Option.map_some, hv1, hv2, hv3]
          rw [run_slice_lhm _ _ _ _ _ hu' _ _ _ _ _ _ hr3.1 (by omega) (by omega) (by omega), hzz]
          rfl
        · rename_i k2 n2 k3 n3 _ hlo hhi hmx
          have e1 : lo = none := by cases lo with | none => rfl | some => cases hlo
          subst e1
          have hv2 := int_val (ev_c hf hhi)
          have hv3 := int_val (ev_c hf hmx)
          simp only [Option.some.injEq, Prod.mk.injEq, List.length_map] at h
          obtain ⟨rfl, rfl, rfl⟩ := h
          have hr : 0 ≤ n3 ∧ n3 ≤ (l'.length : Int) := ho.1
          have hr2 : 0 ≤ n2 ∧ n2 ≤ (n3.toNat : Int) := ho.2.1
          refine fin 0 n2.toNat n3.toNat (Nat.zero_le _) (by omega) (by omega) (by omega) rfl rfl (fun z => ?_)
          simp only [Option.map_none, hv2, hv3]
          rw [run_slice_hm _ _ _ _ _ hu' _ _ _ _ hr2.1 (by omega) (by omega), hzz]
          rfl
        · rename_i k1 n1 k2 n2 k3 n3 _ hlo hhi hmx
          obtain ⟨xl, rfl⟩ : ∃ xl, lo = some xl := by cases lo with | none => cases hlo | some xl => exact ⟨xl, rfl⟩
          simp only [evO, Option.some.injEq] at hlo
          have hv1 := int_val (ev_c hf hlo)
          have hv2 := int_val (ev_c hf hhi)
          have hv3 := int_val (ev_c hf hmx)
          simp only [Option.some.injEq, Prod.mk.injEq, List.length_map] at h
          obtain ⟨rfl, rfl, rfl⟩ := h
          have hr : 0 ≤ n3 ∧ n3 ≤ (l'.length : Int) := ho.1
          have hr2 : 0 ≤ n2 ∧ n2 ≤ (n3.toNat : Int) := ho.2.1
          have hr3 : 0 ≤ n1 ∧ n1 ≤ (n2.toNat : Int) := ho.2.2.1
          refine fin n1.toNat n2.toNat n3.toNat (by omega) (by omega) (by omega) (by omega) rfl rfl (fun z => ?_)
          simp only [Option.map_some, hv1, hv2, hv3]
          rw [run_slice_lhm _ _ _ _ _ hu' _ _ _ _ _ _ hr3.1 (by omega) (by omega) (by omega), hzz]
          rfl
        · cases h
    · cases h
  · cases h
theorem slc_ok (ht : TabOk P tb) (hf : FrOk (faces hp) fr a.tmps) (hk : HOk B hp w) {T : TypeId} {x : Operand} {lo hi : Option Operand} {v : AV} {ck : List Ck} {obs : List Prop} (hop : o.op = .slice T x lo hi none)
    (h : slc std tb (hp.map Ch.ck) T (ev fr x) (evO fr lo) (evO fr hi) = some (v, ck, obs)) (ho : All obs) : Does P B hp a w o v ck ∧ ∃ u, ∀ z, (execOp a.eval o).run P z = .ok (.value u) z := by
  unfold slc at h
  split at h
  · rename_i i hx
    split at h
    · rename_i q e l E te hci hE
      cases hsz : Nat.beq te.size e.sz with
      | false => rw [hsz] at h; simp at h
      | true =>
        rw [hsz] at h
        simp only [cond_true] at h
        have hs1 := Nat.eq_of_beq_eq_true hsz
        obtain ⟨ti, hti, hE', hte⟩ : ∃ ti, getTI tb T = some ti ∧ ti.elem = some E ∧ getTI tb E = some te := by
          unfold elemTI at hE
          split at hE
          · rename_i ti hti
            split at hE
            · rename_i E' hE'
              split at hE
              · rename_i te' hte
                simp only [Option.some.injEq, Prod.mk.injEq] at hE
                obtain ⟨rfl, rfl⟩ := hE
                exact ⟨ti, hti, hE', hte⟩
              · cases hE
            · cases hE
          · cases hE
        have hu := (ht _ _ hti).slice hE'
        have hel : P.elem T = E := by simp [Program.elem, hu]
        have hu' : P.underlying T = some (.slice (P.elem T)) := by rw [hel]; exact hu
        have hzz : ∀ w, (sizeOf (P.elem T)).run P w = .ok e.sz w := fun w => by rw [hel, ← hs1]; exact (ht _ _ hte).sz w
        obtain ⟨d, hd, hdc⟩ := nthCk_some hci (by simp)
        cases d <;> simp [Ch.ck] at hdc
        rename_i q' A c e' l'
        obtain ⟨rfl, rfl, hdc⟩ := hdc
        cases hdc
        have hval := ev_c hf hx
        have hfa : (faces hp)[i]? = some ⟨A, l'.length, c, e'.sz, []⟩ := by simp [faces, hd, Ch.face]
        simp only [Ce.val, hfa, Option.some.injEq] at hval
        have hcap := (hk.ok i _ hd).2.1
        have fin : ∀ (x' y : Nat), x' ≤ y → y ≤ l'.length → v = .c (.sl hp.length) → ck = hp.map Ch.ck ++ [.arr q' e' ((l'.drop x').take (y - x'))] →
            (∀ z, (Instr.slice T (.slice A l'.length c) (lo.map a.eval) (hi.map a.eval) none).run P z = .ok (sliced A x' y c e'.sz) z) → Does P B hp a w o v ck ∧ ∃ u, ∀ z, (execOp a.eval o).run P z = .ok (.value u) z := by
          intro x' y h1 h2 hv hck hrun
          subst hv
          have hlen := cut_len l' h1 h2
          have hall : ∀ z, (execOp a.eval o).run P z = .ok (.value (sliced A x' y c e'.sz)) z := fun z => by simp [execOp, hop, ← hval, run_sliceAt_slice, hu', hrun]
          refine ⟨?_, _, hall⟩
          refine ⟨_, sliced A x' y c e'.sz, w, hp ++ [.arr q' (if c = x' then A else A.map (·.add (x' * e'.sz))) (c - x') e' ((l'.drop x').take (y - x'))], ?_, .inl rfl, ⟨by rw [hck]; simp [Ch.ck], fun _ => ⟨Below.refl _ _, News.one fun h => by cases h⟩⟩, faces_app _ _, arr_cut hk hd h1 h2, .inr ?_⟩
          · exact hall w
          · simp only [AV.val, Ce.val, face_new, Ch.face, hlen]
            rfl
        split at h
        · rename_i hlo hhi
          have e1 : lo = none := by cases lo with | none => rfl | some => cases hlo
          have e2 : hi = none := by cases hi with | none => rfl | some => cases hhi
          subst e1; subst e2
          simp only [Option.some.injEq, Prod.mk.injEq, List.length_map] at h
          obtain ⟨rfl, rfl, rfl⟩ := h
          refine fin 0 l'.length (Nat.zero_le _) (Nat.le_refl _) rfl rfl (fun z => ?_)
          simp only [Option.map_none]
          rw [run_slice_all _ _ _ _ _ hu', hzz]
          rfl
        · rename_i k1 n1 hlo hhi
          have e2 : hi = none := by cases hi with | none => rfl | some => cases hhi
          subst e2
          obtain ⟨xl, rfl⟩ : ∃ xl, lo = some xl := by cases lo with | none => cases hlo | some xl => exact ⟨xl, rfl⟩
          simp only [evO, Option.some.injEq] at hlo
          have hv1 := int_val (ev_c hf hlo)
          simp only [Option.some.injEq, Prod.mk.injEq, List.length_map] at h
          obtain ⟨rfl, rfl, rfl⟩ := h
          have hr : 0 ≤ n1 ∧ n1 ≤ (l'.length : Int) := ho.1
          refine fin n1.toNat l'.length (by omega) (Nat.le_refl _) rfl rfl (fun z => ?_)
          simp only [Option.map_none, Option.map_some, hv1]
          rw [run_slice_l _ _ _ _ _ hu' _ _ hr.1 hr.2, hzz]
          rfl
        · rename_i k1 n1 hlo hhi
          have e1 : lo = none := by cases lo with | none => rfl | some => cases hlo
          subst e1
          obtain ⟨xl, rfl⟩ : ∃ xl, hi = some xl := by cases hi with | none => cases hhi | some xl => exact ⟨xl, rfl⟩
          simp only [evO, Option.some.injEq] at hhi
          have hv1 := int_val (ev_c hf hhi)
          simp only [Option.some.injEq, Prod.mk.injEq, List.length_map] at h
          obtain ⟨rfl, rfl, rfl⟩ := h
          have hr : 0 ≤ n1 ∧ n1 ≤ (l'.length : Int) := ho.1
          refine fin 0 n1.toNat (Nat.zero_le _) (by omega) rfl rfl (fun z => ?_)
          simp only [Option.map_none, Option.map_some, hv1]
          rw [run_slice_h _ _ _ _ _ hu' _ _ hr.1 (by omega), hzz]
          rfl
        · rename_i k1 n1 k2 n2 hlo hhi
          obtain ⟨xl, rfl⟩ : ∃ xl, lo = some xl := by cases lo with | none => cases hlo | some xl => exact ⟨xl, rfl⟩
          obtain ⟨xh, rfl⟩ : ∃ xl, hi = some xl := by cases hi with | none => cases hhi | some xl => exact ⟨xl, rfl⟩
          simp only [evO, Option.some.injEq] at hlo hhi
          have hv1 := int_val (ev_c hf hlo)
          have hv2 := int_val (ev_c hf hhi)
          simp only [Option.some.injEq, Prod.mk.injEq, List.length_map] at h
          obtain ⟨rfl, rfl, rfl⟩ := h
          have hr : 0 ≤ n2 ∧ n2 ≤ (l'.length : Int) := ho.1
          have hr2 : 0 ≤ n1 ∧ n1 ≤ (n2.toNat : Int) := ho.2.1
          refine fin n1.toNat n2.toNat (by omega) (by omega) rfl rfl (fun z => ?_)
          simp only [Option.map_some, hv1, hv2]
          rw [run_slice_lh _ _ _ _ _ hu' _ _ _ _ hr2.1 (by omega) (by omega), hzz]
          rfl
        · cases h
    · cases h
  · cases h
theorem appS_ok (ht : TabOk P tb) (hk : HOk B hp w) {T : TypeId} {s x : Operand} {u y : AV} {v : AV} {ck : List Ck} {obs : List Prop} (hh : ∃ xs ts T2', o.op = .call ⟨.builtin .append, xs, ts⟩ ∧ xs.toList = [s, x] ∧ ts.toList = [T, T2'] ∧ T2' = T)
    (hu : ∀ i, u = .c (.sl i) → (Ce.sl i).val (faces hp) = some (a.eval s)) (hy : ∀ j, y = .c (.sl j) → (Ce.sl j).val (faces hp) = some (a.eval x)) (h : appendS std tb (hp.map Ch.ck) T u y = some (v, ck, obs)) (ho : All obs) : Does P B hp a w o v ck := by
  unfold appendS at h
  split at h
  · rename_i i j
    split at h
    · rename_i E te hE
      split at h
      · rename_i e' T' e l e2 l2 he hci hcj
        cases hb : (Nat.beq i j || !Nat.ble te.bytes 64) with
        | true => rw [hb] at h; simp at h
        | false =>
          rw [hb] at h
          simp only [Bool.or_eq_false_iff, Bool.not_eq_false'] at hb
          simp only [cond_false] at h
          have hE2 := elemTI_ok hE
          split at h
          all_goals first
            | exact app1_ok ht hk hh hE2.1 hE2.2 he (hu _ rfl) (hy _ rfl) hci hcj hb.2 h ho
            | cases h
      · rename_i e' e l e2 l2 he hci hcj
        cases hb : (!Nat.ble te.bytes 64) with
        | true => rw [hb] at h; simp at h
        | false =>
          rw [hb] at h
          simp only [Bool.not_eq_false'] at hb
          simp only [cond_false] at h
          have hE2 := elemTI_ok hE
          split at h
          all_goals first
            | exact app2_ok ht hk hh hE2.1 hE2.2 he (hu _ rfl) (hy _ rfl) hci hcj hb h ho
            | cases h
      · cases h
    · cases h
  · cases h
theorem does_ext {hp' : List Ch} {v : AV} {ck : List Ck} (hw : wrOp o.op = true) (hf : FsLe (faces hp) (faces hp')) (h : Does P B hp' a w o v ck) : Does P B hp a w o v ck := by
  obtain ⟨n, u, w', hp2, h1, h2, h3, h4, h5, h6⟩ := h
  exact ⟨n, u, w', hp2, h1, h2, ⟨h3.1, fun e => by rw [hw] at e; cases e⟩, hf.trans h4, h5, h6⟩
theorem isNil_eq {v : Value} (h : isNil v = true) : v = .slice none 0 0 := by
  unfold isNil at h
  split at h
  · rfl
  · cases h
theorem HOk.nilOwn (hk : HOk B hp w) (E : TypeId) (e : El) : HOk B (hp ++ [.own none 0 E e []]) w := by
  refine hk.push (Below.refl _ _) (World.ownsRow_nil w _ E e.sz) (fun b hb => ?_)
  obtain ⟨ad, h, _⟩ := hb
  cases h
theorem HOk.nil {B w : World} {hp : List Ch} (h : HOk B hp w) (e : El) : HOk B (hp ++ [.arr true none 0 e []]) w := by
  refine h.pushR ⟨fun _ ad hA => (by cases hA), Nat.le_refl _, Nat.zero_le _, fun h0 => absurd h0 (by simp)⟩ rfl (fun b hb => ?_)
  exact absurd hb.1 (by simp)
theorem appN_ok (ht : TabOk P tb) (hf : FrOk (faces hp) fr a.tmps) (hk : HOk B hp w) {T : TypeId} {s x : Operand} {v : AV} {ck : List Ck} {obs : List Prop} (hh : ∃ xs ts T2', o.op = .call ⟨.builtin .append, xs, ts⟩ ∧ xs.toList = [s, x] ∧ ts.toList = [T, T2'] ∧ T2' = T)
    (h : appendN std tb (hp.map Ch.ck) T (ev fr s) (ev fr x) = some (v, ck, obs)) (ho : All obs) : Does P B hp a w o v ck := by
  have hw : wrOp o.op = true := by obtain ⟨_, _, _, h1, _⟩ := hh; rw [h1]; rfl
  unfold appendN at h
  split at h
  · rename_i v' hs
    split at h
    · rename_i E te hn hE
      split at h
      · rename_i e he
        have hv := isNil_eq hn
        subst hv
        have e1 := ev_c hf hs
        simp only [Ce.val, Option.some.injEq] at e1
        have hfx : FsLe (faces hp) (faces (hp ++ [.own none 0 E e []])) := faces_app _ _
        refine does_ext hw hfx (appS_ok ht (hk.nilOwn E e) hh (u := .c (.sl hp.length)) (y := ev fr x) (fun i hi => ?_) (fun j hj => ?_) (by simpa [Ch.ck] using h) ho)
        · cases hi
          rw [← e1]
          simp [Ce.val, face_new, Ch.face]
        · exact Ce.val_mono hfx (ev_c hf hj)
      · cases h
    · cases h
  · split at h
    · rename_i v' hs
      split at h
      · rename_i E te hn hE
        split at h
        · rename_i e he
          have hv := isNil_eq hn
          subst hv
          have e1 := ev_c hf hs
          simp only [Ce.val, Option.some.injEq] at e1
          have hfx : FsLe (faces hp) (faces (hp ++ [.arr true none 0 e []])) := faces_app _ _
          refine does_ext hw hfx (appS_ok ht (hk.nil e) hh (u := ev fr s) (y := .c (.sl hp.length)) (fun i hi => ?_) (fun j hj => ?_) (by simpa [Ch.ck] using h) ho)
          · exact Ce.val_mono hfx (ev_c hf hi)
          · cases hj
            rw [← e1]
            simp [Ce.val, face_new, Ch.face]
        · cases h
      · cases h
    · exact appS_ok ht hk hh (fun i hi => ev_c hf hi) (fun j hj => ev_c hf hj) h ho

theorem made_flat (e : El) {z : Array Value} (hz : z.toList = e.vals e.zero) (n c : Nat) (h : n ≤ c) : (madeCells z (c * e.sz)).toList.take (n * e.sz) = e.flat (List.replicate n e.zero) := by
  have hzs : z.size = e.sz := by rw [← Array.length_toList, hz, e.vals_len]
  have hnc : n * e.sz ≤ c * e.sz := Nat.mul_le_mul_right _ h
  refine List.ext_getElem? fun k => ?_
  rw [List.getElem?_take]
  by_cases hk : k < n * e.sz
  · rw [if_pos hk]
    have hd : k / e.sz < n := Nat.div_lt_of_lt_mul (by rw [Nat.mul_comm]; exact hk)
    have hm : k % e.sz < e.sz := Nat.mod_lt _ e.sz_pos
    have hkk : k / e.sz * e.sz + k % e.sz = k := by rw [Nat.mul_comm]; exact Nat.div_add_mod k e.sz
    have hv : (e.vals e.zero)[k % e.sz]? = some ((e.vals e.zero)[k % e.sz]'(by rw [e.vals_len]; exact hm)) := List.getElem?_eq_getElem _
    have h2 := e.flat_at (List.replicate n e.zero) (k / e.sz) (k % e.sz) ((e.vals e.zero)[k % e.sz]'(by rw [e.vals_len]; exact hm)) (by simpa using hd) (by
      rw [List.getD_eq_getElem?_getD, List.getElem?_replicate, if_pos hd]; exact hv)
    rw [hkk] at h2
    rw [h2]
    have hkc : k < c * e.sz := by omega
    simp only [madeCells, Array.toList_map, Array.toList_range, List.getElem?_map, List.getElem?_range hkc, Option.map_some, hzs]
    congr 1
    rw [getElem!_pos z (k % e.sz) (by omega)]
    have : z[k % e.sz] = z.toList[k % e.sz]'(by rw [Array.length_toList]; omega) := by simp
    rw [this]
    simp only [hz]
  · rw [if_neg hk, List.getElem?_eq_none]
    rw [e.flat_len, List.length_replicate]; omega
theorem mks_ok (ht : TabOk P tb) (hf : FrOk (faces hp) fr a.tmps) (hk : HOk B hp w) {T : TypeId} {n c : Operand} {v : AV} {ck : List Ck} {obs : List Prop} (hop : o.op = .makeSlice T n c)
    (h : mks std tb (hp.map Ch.ck) T (ev fr n) (ev fr c) = some (v, ck, obs)) (ho : All obs) : Does P B hp a w o v ck := by
  unfold mks at h
  split at h
  · rename_i k1 nn k2 cc hn hc
    split at h
    · rename_i E te hE
      split at h
      · rename_i e he
        cases hb : Nat.ble te.bytes 64 with
        | false => rw [hb] at h; cases h
        | true =>
          rw [hb] at h
          simp only [cond_true, Option.some.injEq, Prod.mk.injEq] at h
          obtain ⟨rfl, rfl, rfl⟩ := h
          obtain ⟨⟨ti, hti, hte⟩, hgE⟩ := elemTI_ok hE
          obtain ⟨it, z, hi, hz, hsz, hby, hcs, hzv, hz1⟩ := (ht _ _ hgE).info
          obtain ⟨hes, hev⟩ := (ht _ _ hgE).el e he
          have o1 : 0 ≤ cc ∧ cc ≤ (cc.toNat : Int) := ho.1
          have o2 : 0 ≤ nn ∧ nn ≤ (cc.toNat : Int) := ho.2.1
          have o3 : cc.toNat ≤ 1099511627776 := ho.2.2.1
          have e1 := ev_c hf hn
          have e2 := ev_c hf hc
          simp only [Ce.val, Option.some.injEq] at e1 e2
          have b64 : it.bytes ≤ 64 := by rw [hby]; exact Nat.le_of_ble_eq_true hb
          have hbn : it.bytes * cc.toNat ≤ 64 * 1099511627776 := Nat.mul_le_mul b64 o3
          have hbi : (it.bytes : Int) * cc ≤ 281474976710656 := by
            have h9 : ((it.bytes * cc.toNat : Nat) : Int) ≤ 281474976710656 := by omega
            rw [Int.natCast_mul] at h9
            have : (cc.toNat : Int) = cc := Int.toNat_of_nonneg o1.1
            rwa [this] at h9
          have hr := run_make (P := P) w T E it z ((ht _ _ hti).slice hte) hi hz k1 k2 nn cc o2.1 (by omega) hbi (by omega)
          have hzl : z.cells.toList = e.vals e.zero := by
            have h8 := hzv (faces hp)
            rw [hev (faces hp)] at h8
            injection h8 with h8
            exact h8.symm
          have hsz2 : it.size = e.sz := by omega
          have hown : (w.alloc (.cells (madeCells z.cells (cc.toNat * it.size)) E)).ownsRow B.heap.size E e.sz (.slice (some ⟨w.heap.size, 0, none⟩) (List.replicate nn.toNat e.zero).length cc.toNat) (List.replicate nn.toNat e.zero).length (e.flat (List.replicate nn.toNat e.zero)) := by
            refine ⟨e.flat_len _, .inr ⟨w.heap.size, cc.toNat, madeCells z.cells (cc.toNat * it.size), rfl, hk.bel.size, Blk.new w E _, ?_, ?_, ?_, ?_⟩⟩
            · rw [List.length_replicate]; omega
            · simp only [maxLen]; omega
            · rw [size_madeCells, hsz2]
            · rw [List.length_replicate, hsz2]
              exact made_flat e hzl _ _ (by omega)
          refine ⟨.value (.slice (some ⟨w.heap.size, 0, none⟩) nn.toNat cc.toNat), _, w.alloc (.cells (madeCells z.cells (cc.toNat * it.size)) E), hp ++ [.own (some ⟨w.heap.size, 0, none⟩) cc.toNat E e (List.replicate nn.toNat e.zero)], ?_, .inl rfl, ⟨?_, fun _ => ⟨(Below.refl _ _).alloc (Nat.le_refl _) _, News.one fun _ b hb => by obtain ⟨ad, h, h'⟩ := hb; injection h with h; subst h; exact Nat.le_of_eq h'⟩⟩, faces_app _ _, ?_, .inr ?_⟩
          · simp [execOp, hop, ← e1, ← e2, hr]
          · simp [Ch.ck, std]
          · refine hk.push ((Below.refl _ _).alloc (Nat.le_refl _) _) hown (fun b hb => ?_)
            obtain ⟨ad, h1, h2⟩ := hb
            injection h1 with h1
            subst h1
            rw [← h2]; exact Nat.le_refl _
          · simp only [AV.val, Ce.val, List.length_map, face_new, Ch.face, List.length_replicate]
      · split at h
        · rename_i U hU
          cases hb : (Nat.ble te.bytes 64 && isNilL te.zero) with
          | false => rw [hb] at h; cases h
          | true =>
            rw [hb] at h
            simp only [Bool.and_eq_true] at hb
            simp only [cond_true, Option.some.injEq, Prod.mk.injEq] at h
            obtain ⟨rfl, rfl, rfl⟩ := h
            obtain ⟨⟨ti, hti, hte⟩, hgE⟩ := elemTI_ok hE
            obtain ⟨it, z, hi, hz, hsz, hby, hcs, hzv, hz1⟩ := (ht _ _ hgE).info
            have hze : te.zero = [.raw (.slice none 0 0)] := by
              have h9 := hb.2
              unfold isNilL at h9
              split at h9
              · rename_i v9 hv9
                rw [hv9, isNil_eq h9]
              · cases h9
            have hzl : z.cells.toList = [.slice none 0 0] := by
              have h8 := hzv (faces hp)
              rw [hze] at h8
              simpa [vals, allv, Ce.val] using h8.symm
            have hzs : z.cells.size = 1 := by rw [← Array.length_toList, hzl]; rfl
            have hsz2 : it.size = 1 := by omega
            have o1 : 0 ≤ cc ∧ cc ≤ (cc.toNat : Int) := ho.1
            have o2 : 0 ≤ nn ∧ nn ≤ (cc.toNat : Int) := ho.2.1
            have o3 : cc.toNat ≤ 1099511627776 := ho.2.2.1
            have e1 := ev_c hf hn
            have e2 := ev_c hf hc
            simp only [Ce.val, Option.some.injEq] at e1 e2
            have b64 : it.bytes ≤ 64 := by rw [hby]; exact Nat.le_of_ble_eq_true hb.1
            have hbn : it.bytes * cc.toNat ≤ 64 * 1099511627776 := Nat.mul_le_mul b64 o3
            have hbi : (it.bytes : Int) * cc ≤ 281474976710656 := by
              have h9 : ((it.bytes * cc.toNat : Nat) : Int) ≤ 281474976710656 := by omega
              rw [Int.natCast_mul] at h9
              have : (cc.toNat : Int) = cc := Int.toNat_of_nonneg o1.1
              rwa [this] at h9
            have hr := run_make (P := P) w T E it z ((ht _ _ hti).slice hte) hi hz k1 k2 nn cc o2.1 (by omega) hbi (by omega)
            have hmade : (madeCells z.cells (cc.toNat * it.size)).toList.take (nn.toNat * 1) = List.replicate nn.toNat (Value.slice none 0 0) := by
              refine List.ext_getElem? fun k => ?_
              rw [List.getElem?_take, List.getElem?_replicate]
              by_cases hkk : k < nn.toNat
              · rw [if_pos (by omega), if_pos hkk]
                have hkc : k < cc.toNat * it.size := by rw [hsz2]; omega
                simp only [madeCells, Array.toList_map, Array.toList_range, List.getElem?_map, List.getElem?_range hkc, Option.map_some, hzs]
                congr 1
                rw [getElem!_pos z.cells (k % 1) (by omega)]
                have : z.cells[k % 1]'(by omega) = z.cells.toList[k % 1]'(by rw [Array.length_toList]; omega) := by simp
                rw [this]
                simp only [hzl, Nat.mod_one, List.getElem_cons_zero]
              · rw [if_neg (by omega), if_neg hkk]
            have hmtw : MtwOk (w.alloc (.cells (madeCells z.cells (cc.toNat * it.size)) E)) B.heap.size (some ⟨w.heap.size, 0, none⟩) cc.toNat E U (List.replicate nn.toNat (.slice none 0 0)) (List.replicate nn.toNat []) := by
              refine ⟨by simp, ⟨by simp, .inr ⟨w.heap.size, cc.toNat, madeCells z.cells (cc.toNat * it.size), by simp, hk.bel.size, Blk.new w E _, ?_, ?_, ?_, ?_⟩⟩, fun k v l hkv hkl => ?_, fun k v b hkv hvb => ?_, fun k k' v v' b _ hkv _ hvb => ?_⟩
              · rw [List.length_replicate]; omega
              · simp only [maxLen]; omega
              · rw [size_madeCells, hsz2]
              · rw [List.length_replicate]; exact hmade
              · rw [List.getElem?_replicate] at hkv hkl
                split at hkv
                · rename_i hlt
                  rw [if_pos hlt] at hkl
                  injection hkv with hkv; injection hkl with hkl
                  subst hkv; subst hkl
                  exact World.ownsRow_nil _ _ U 1
                · cases hkv
              · rw [List.getElem?_replicate] at hkv
                split at hkv
                · injection hkv with hkv; subst hkv; cases hvb
                · cases hkv
              · rw [List.getElem?_replicate] at hkv
                split at hkv
                · injection hkv with hkv; subst hkv; cases hvb
                · cases hkv
            have htch : ∀ b, (Ch.mtw (some ⟨w.heap.size, 0, none⟩) cc.toNat E U (List.replicate nn.toNat (.slice none 0 0)) (List.replicate nn.toNat [])).touch b → w.heap.size ≤ b := fun b hb => by
              rcases hb with ⟨ad, h1, h2⟩ | ⟨k, v, hkv, hvb⟩
              · injection h1 with h1
                subst h1
                exact Nat.le_of_eq h2
              · rw [List.getElem?_replicate] at hkv
                split at hkv
                · injection hkv with hkv; subst hkv; cases hvb
                · cases hkv
            refine ⟨.value (.slice (some ⟨w.heap.size, 0, none⟩) nn.toNat cc.toNat), _, w.alloc (.cells (madeCells z.cells (cc.toNat * it.size)) E), hp ++ [.mtw (some ⟨w.heap.size, 0, none⟩) cc.toNat E U (List.replicate nn.toNat (.slice none 0 0)) (List.replicate nn.toNat [])], ?_, .inl rfl, ⟨?_, fun _ => ⟨(Below.refl _ _).alloc (Nat.le_refl _) _, News.one fun _ => htch⟩⟩, faces_app _ _, ?_, .inr ?_⟩
            · simp [execOp, hop, ← e1, ← e2, hr]
            · simp [Ch.ck, std, El.zero]
            · exact hk.push ((Below.refl _ _).alloc (Nat.le_refl _) _) hmtw htch
            · simp only [AV.val, Ce.val, List.length_map, face_new, Ch.face, List.length_replicate]
        · cases h
    · cases h
  · cases h
theorem orF_some {x y : Option Eff} {r : Eff} (h : orF x y = some r) : x = some r ∨ y = some r := by
  cases x with
  | none => exact .inr h
  | some z => exact .inl h
theorem nilmt_ok (hk : HOk B hp w) {E U : TypeId} (hop : o.op = .assign (.const (.slice none 0 0))) :
    Does P B hp a w o (.c (.sl hp.length)) (hp.map Ch.ck ++ [.mtw E U []]) := by
  have htch : ∀ b, ¬ (Ch.mtw none 0 E U [] []).touch b := fun b hb => by
    rcases hb with ⟨ad, h, _⟩ | ⟨k, v, hkv, _⟩
    · cases h
    · simp at hkv
  refine ⟨_, .slice none 0 0, w, hp ++ [.mtw none 0 E U [] []], by simp [execOp, hop, Act.eval], .inl rfl, ⟨by simp [Ch.ck], fun _ => ⟨Below.refl _ _, News.one fun _ b hb => (htch b hb).elim⟩⟩, faces_app _ _, ?_, .inr ?_⟩
  · refine hk.push (Below.refl _ _) ⟨rfl, World.ownsRow_nil w _ E 1, fun k v l h => by simp at h, fun k v b h => by simp at h, fun k k' v v' b _ h => by simp at h⟩ (fun b hb => (htch b hb).elim)
  · simp [AV.val, Ce.val, face_new, Ch.face]
/-- a row is appended to a matrix: what the blocks hold -/
theorem HOk.growRow (hk : HOk B hp w) {i j : Nat} {A Aj A' : Option Addr} {c cj c' : Nat} {T U : TypeId} {rs : List Value} {ll : List (List Int)} {l : List Int} (hi : hp[i]? = some (.mtw A c T U rs ll)) (hj : hp[j]? = some (.own Aj cj U .i1 l))
    {w' : World} (hown : w'.ownsRow B.heap.size T 1 (.slice A' (ll.length + 1) c') (ll.length + 1) (rs ++ [.slice Aj l.length cj])) (hgr : w.grownBy w' (Value.slice A ll.length c).ownBlock)
    (hwh : (Value.slice A' (ll.length + 1) c').ownBlock = (Value.slice A ll.length c).ownBlock ∨ (Value.slice A' (ll.length + 1) c').ownBlock = some w.heap.size) :
    HOk B ((hp.set j (.gone (Ch.own Aj cj U .i1 l).face)).set i (.gone (Ch.mtw A c T U rs ll).face) ++ [.mtw A' c' T U (rs ++ [.slice Aj l.length cj]) (ll ++ [l])]) w' := by
  obtain ⟨m1, m2, m3, m4, m5⟩ := hk.ok i _ hi
  have hownj : w.ownsRow B.heap.size U 1 (.slice Aj l.length cj) l.length (El.i1.flat l) := hk.ok j _ hj
  have hij : i ≠ j := fun e => by rw [e, hj] at hi; cases hi
  have htj : ∀ b, (Value.slice Aj l.length cj).ownBlock = some b → (Ch.own Aj cj U .i1 l).touch b := fun b hb => own_touch.2 hb
  have hti : ∀ b, (Value.slice A ll.length c).ownBlock = some b → mtwTouch A rs b := fun b hb => by
    cases A with
    | none => cases hb
    | some ad => exact .inl ⟨ad, rfl, by injection hb⟩
  have h1 : HOk B (hp.set j (.gone (Ch.own Aj cj U .i1 l).face)) w := hk.change hj rfl rfl (Nat.le_refl _) rfl rfl rfl (fun _ _ _ => rfl) (fun b hb => hb.elim) trivial
  have hi2 : (hp.set j (.gone (Ch.own Aj cj U .i1 l).face))[i]? = some (.mtw A c T U rs ll) := by rw [List.getElem?_set, if_neg (fun e => hij e.symm)]; exact hi
  have h2 : HOk B ((hp.set j (.gone (Ch.own Aj cj U .i1 l).face)).set i (.gone (Ch.mtw A c T U rs ll).face)) w' :=
    h1.change hi2 rfl rfl hgr.size hgr.os hgr.tape hgr.output (fun b hb hnt => hgr.block b hb (fun e => hnt (hti b e.symm))) (fun b hb => hb.elim) trivial
  have hkeep : ∀ b, b < w.heap.size → (∀ b', (Value.slice A ll.length c).ownBlock = some b' → b ≠ b') → w'.heap[b]? = w.heap[b]? := fun b hb h => hgr.block b hb (fun e => h b e.symm rfl)
  have hjA : ∀ b, (Value.slice Aj l.length cj).ownBlock = some b → ∀ b', (Value.slice A ll.length c).ownBlock = some b' → b ≠ b' := fun b hb b' hb' e => hk.sep i j _ _ hij hi hj rfl b' (hti b' hb') (by rw [← e]; exact htj b hb)
  have hrA : ∀ (k : Nat) v b, rs[k]? = some v → v.ownBlock = some b → ∀ b', (Value.slice A ll.length c).ownBlock = some b' → b ≠ b' := fun k v b hkv hvb b' hb' e => by
    subst e
    cases A with
    | none => cases hb'
    | some ad => exact m4 k v b hkv hvb ad rfl (by injection hb')
  have happ : ∀ (k' : Nat) v', (rs ++ [Value.slice Aj l.length cj])[k']? = some v' → (k' = rs.length ∧ v' = .slice Aj l.length cj) ∨ (k' < rs.length ∧ rs[k']? = some v') := fun k' v' h => by
    rcases Nat.lt_or_ge k' rs.length with h1 | h1
    · rw [List.getElem?_append_left h1] at h; exact .inr ⟨h1, h⟩
    · rw [List.getElem?_append_right h1] at h
      cases hq : k' - rs.length with
      | zero => rw [hq] at h; simp at h; exact .inl ⟨by omega, h.symm⟩
      | succ n => rw [hq] at h; simp at h
  have hlt : ∀ (k' : Nat) v' b, (rs ++ [Value.slice Aj l.length cj])[k']? = some v' → v'.ownBlock = some b → b < w.heap.size := fun k' v' b h hb => by
    rcases happ k' v' h with ⟨_, rfl⟩ | ⟨h3, h4⟩
    · exact (ownsRow_lt hownj hb).2
    · exact (ownsRow_lt (m3 k' v' _ h4 (List.getElem?_eq_getElem (by omega))) hb).2
  refine h2.push' (Below.refl _ _) ⟨by simp [m1], by simpa using hown, fun k' v' l' hk' hl' => ?_, fun k' v' b hk' hb ad had e => ?_, fun k' k2 v' v2 b hne hk' hk2 hb hb2 => ?_⟩ (fun b hb m d hm hd => ?_)
  · rcases happ k' v' hk' with ⟨rfl, rfl⟩ | ⟨hlt', hk'⟩
    · rw [m1, List.getElem?_append_right (Nat.le_refl _), Nat.sub_self] at hl'
      simp at hl'
      subst hl'
      exact ownsRow_heap hownj fun b hb hlt => hkeep b hlt (hjA b hb)
    · rw [List.getElem?_append_left (by omega)] at hl'
      exact ownsRow_heap (m3 k' v' l' hk' hl') fun b hb hlt => hkeep b hlt (hrA k' v' b hk' hb)
  · have hA'b : (Value.slice A' (ll.length + 1) c').ownBlock = some b := by rw [had, ← e]; rfl
    rcases hwh with hwh | hwh
    · rw [hwh] at hA'b
      rcases happ k' v' hk' with ⟨_, rfl⟩ | ⟨_, hk'⟩
      · exact hjA b hb b hA'b rfl
      · exact hrA k' v' b hk' hb b hA'b rfl
    · rw [hwh] at hA'b
      injection hA'b with hA'b
      have := hlt k' v' b hk' hb
      omega
  · rcases happ k' v' hk' with ⟨e1, rfl⟩ | ⟨hn1, hk'⟩ <;> rcases happ k2 v2 hk2 with ⟨e2, rfl⟩ | ⟨hn2, hk2⟩
    · exact hne (e1.trans e2.symm)
    · exact hk.sep i j _ _ hij hi hj rfl b (.inr ⟨k2, v2, hk2, hb2⟩) (htj b hb)
    · exact hk.sep i j _ _ hij hi hj rfl b (.inr ⟨k', v', hk', hb⟩) (htj b hb2)
    · exact m5 k' k2 v' v2 b hne hk' hk2 hb hb2
  · have hmi : m ≠ i := fun e => by
      subst e
      rw [List.getElem?_set, if_pos rfl] at hm
      split at hm
      · injection hm with hm; subst hm; exact hd
      · cases hm
    rw [List.getElem?_set, if_neg (fun e => hmi e.symm)] at hm
    have hmj : m ≠ j := fun e => by
      subst e
      rw [List.getElem?_set, if_pos rfl] at hm
      split at hm
      · injection hm with hm; subst hm; exact hd
      · cases hm
    rw [List.getElem?_set, if_neg (fun e => hmj e.symm)] at hm
    rcases hb with ⟨ad, had, rfl⟩ | ⟨k', v', hk', hb⟩
    · have hA'b : (Value.slice A' (ll.length + 1) c').ownBlock = some ad.block := by rw [had]; rfl
      rcases hwh with hwh | hwh
      · rw [hwh] at hA'b
        exact hk.sep i m _ d (fun e => hmi e.symm) hi hm rfl _ (hti _ hA'b) hd
      · rw [hwh] at hA'b
        injection hA'b with hA'b
        have := Ch.touch_lt (hk.ok m d hm) hd
        omega
    · rcases happ k' v' hk' with ⟨_, rfl⟩ | ⟨_, hk'⟩
      · exact hk.sep j m _ d (fun e => hmj e.symm) hj hm rfl b (htj b hb) hd
      · exact hk.sep i m _ d (fun e => hmi e.symm) hi hm rfl b (.inr ⟨k', v', hk', hb⟩) hd
theorem appM_ok (ht : TabOk P tb) (hf : FrOk (faces hp) fr a.tmps) (hk : HOk B hp w) {T : TypeId} {s x : Operand} {v : AV} {ck : List Ck} {obs : List Prop} (hh : ∃ xs ts T2', o.op = .call ⟨.builtin .append, xs, ts⟩ ∧ xs.toList = [s, x] ∧ ts.toList = [T, T2'] ∧ T2' = T)
    (h : appM std tb (hp.map Ch.ck) T (ev fr s) (ev fr x) = some (v, ck, obs)) (ho : All obs) : Does P B hp a w o v ck := by
  obtain ⟨xs, ts, T2, hop, h1, h2, rfl⟩ := hh
  have h1' : xs = #[s, x] := by cases xs; simpa using h1
  have h2' : ts = #[T2, T2] := by cases ts; simpa using h2
  subst h1'; subst h2'
  unfold appM at h
  split at h
  · rename_i i b hs hx
    have e1 := ev_c hf hs
    have e2 := ev_c hf hx
    split at h
    · rename_i E te T' U ll Tb j hE hci hcb
      split at h
      · rename_i U' l hcj
        cases hb : (Nat.beq U U' && (Nat.beq T' E && (Nat.ble te.bytes 64 && (Nat.beq te.size 1 && appM.notB (Nat.beq i j))))) with
        | false => rw [hb] at h; cases h
        | true =>
          rw [hb] at h
          simp only [Bool.and_eq_true] at hb
          obtain ⟨hb1, hb2, hb3, hb4, _⟩ := hb
          simp only [cond_true, Option.some.injEq, Prod.mk.injEq] at h
          obtain ⟨rfl, rfl, rfl⟩ := h
          have := Nat.eq_of_beq_eq_true hb1
          subst this
          have := Nat.eq_of_beq_eq_true hb2
          subst this
          have hts := Nat.eq_of_beq_eq_true hb4
          obtain ⟨⟨ti, hti, hE'⟩, hte⟩ := elemTI_ok hE
          obtain ⟨it, z, hi, hz, hsz, hby, hcs, hzv, hz1⟩ := (ht _ _ hte).info
          obtain ⟨d, hd, hc⟩ := nthCk_some hci (by simp)
          cases d <;> simp [Ch.ck] at hc
          rename_i A c T3 U3 rs ll3
          obtain ⟨rfl, rfl, rfl⟩ := hc
          obtain ⟨db, hdb, hc⟩ := nthCk_some hcb (by simp)
          cases db <;> simp [Ch.ck] at hc
          rename_i gb Tb2 cs2
          obtain ⟨rfl, rfl⟩ := hc
          obtain ⟨dj, hdj, hc⟩ := nthCk_some hcj (by simp)
          cases dj <;> simp [Ch.ck] at hc
          rename_i Aj cj Tj ej lj
          obtain ⟨rfl, rfl, hc⟩ := hc
          cases hc
          obtain ⟨m1, m2, _⟩ := hk.ok i _ hd
          obtain ⟨vs, v1, v2, v3, v4⟩ := hk.ok b _ hdb
          have hfj : (faces hp)[j]? = some ⟨Aj, l.length, cj, 1, []⟩ := by simp [faces, hdj, Ch.face, El.sz]
          have hvs : vs = [.slice Aj l.length cj] := by simpa [vals, allv, Ce.val, hfj] using v1.symm
          subst hvs
          have hfi : (faces hp)[i]? = some ⟨A, ll3.length, c, 1, rs⟩ := by simp [faces, hd, Ch.face]
          have hfb : (faces hp)[b]? = some ⟨some ⟨gb, 0, none⟩, 0, 0, 1, []⟩ := by simp [faces, hdb, Ch.face]
          simp only [Ce.val, hfi, hfb, Option.some.injEq] at e1 e2
          have hl1 : ll3.length ≤ 1099511627776 := ho.1
          have hbytes : it.bytes ≤ 64 := by rw [hby]; exact Nat.le_of_ble_eq_true hb3
          obtain ⟨v', w', hr, hown', hgr, hwh⟩ := append_where (P := P) (w := w) B.heap.size T2 o.type T3 it z 1 it.bytes ((ht _ _ hti).slice hE') hi hz (by omega) rfl (by omega) (by omega) _ ll3.length rs m2 ⟨gb, 0, none⟩ 1 1 [.slice Aj l.length cj] rfl
            (fun q u hq => by
              cases q with
              | zero =>
                simp at hq
                subst hq
                rw [add_at', Nat.zero_add, v2.cell]
                rfl
              | succ q => simp at hq) (fun u hu => by rw [List.mem_singleton.1 hu]; rfl) (by simp only [maxLen]; omega) (by have := Nat.mul_le_mul (show ll3.length + 1 ≤ 2199023255552 by omega) hbytes; omega) hk.bel.size
          obtain ⟨A', c', rfl⟩ : ∃ A' c', v' = .slice A' (ll3.length + 1) c' := by
            rcases hown'.2 with ⟨_, h9⟩ | ⟨g, cap, cur, hv, _⟩
            · omega
            · exact ⟨_, _, hv⟩
          have hfs1 : faces (hp.set j (.gone (Ch.own Aj cj Tj .i1 l).face)) = faces hp := faces_set (c' := .gone (Ch.own Aj cj Tj .i1 l).face) hdj rfl
          have hij : i ≠ j := fun e => by rw [e, hdj] at hd; cases hd
          have hi2 : (hp.set j (.gone (Ch.own Aj cj Tj .i1 l).face))[i]? = some (.mtw A c T3 Tj rs ll3) := by rw [List.getElem?_set, if_neg (fun e => hij e.symm)]; exact hd
          have hfs2 : faces ((hp.set j (.gone (Ch.own Aj cj Tj .i1 l).face)).set i (.gone (Ch.mtw A c T3 Tj rs ll3).face)) = faces hp := (faces_set (c' := .gone (Ch.mtw A c T3 Tj rs ll3).face) hi2 rfl).trans hfs1
          refine ⟨.value (.slice A' (ll3.length + 1) c'), _, w', (hp.set j (.gone (Ch.own Aj cj Tj .i1 l).face)).set i (.gone (Ch.mtw A c T3 Tj rs ll3).face) ++ [.mtw A' c' T3 Tj (rs ++ [.slice Aj l.length cj]) (ll3 ++ [l])], ?_, .inl rfl, ?_, ?_, hk.growRow hd hdj hown' hgr hwh, .inr ?_⟩
          · simp [execOp, hop, resolve, invoke, builtin, ← e1, ← e2, hr]
          · exact ⟨by simp [setK_eq, Ch.ck, std], fun h => by rw [hop] at h; cases h⟩
          · have := faces_app ((hp.set j (.gone (Ch.own Aj cj Tj .i1 l).face)).set i (.gone (Ch.mtw A c T3 Tj rs ll3).face)) (.mtw A' c' T3 Tj (rs ++ [.slice Aj l.length cj]) (ll3 ++ [l]))
            rw [hfs2] at this
            exact this
          · have := face_new ((hp.set j (.gone (Ch.own Aj cj Tj .i1 l).face)).set i (.gone (Ch.mtw A c T3 Tj rs ll3).face)) (.mtw A' c' T3 Tj (rs ++ [.slice Aj l.length cj]) (ll3 ++ [l]))
            simp only [List.length_set] at this
            simp only [AV.val, Ce.val, List.length_map, this]
            simp [Ch.face]
      · cases h
    · cases h
  · cases h
theorem natN_nil {ty : TypeId} {v : Value} (h : natN tb ty v = true) : isNil v = true := by
  unfold natN at h
  split at h
  · cases h
  · exact h
theorem eop_ok (ht : TabOk P tb) (hf : FrOk (faces hp) fr a.tmps) (hk : HOk B hp w) {v : AV} {ck : List Ck} {obs : List Prop} (h : eop std tb fr (hp.map Ch.ck) o.type o.op = some (v, ck, obs)) (ho : All obs) : Does P B hp a w o v ck := by
  unfold eop at h
  split at h
  · rename_i T hop
    split at h
    · rename_i ti hti
      simp only [Option.some.injEq, Prod.mk.injEq, List.length_map] at h
      obtain ⟨rfl, rfl, rfl⟩ := h
      exact alloc_ok ht hk hop hti
    · cases h
  · rename_i T x hop
    split at h
    · rename_i l hl
      simp only [Option.some.injEq, Prod.mk.injEq, List.length_map] at h
      obtain ⟨rfl, rfl, rfl⟩ := h
      exact box_ok hf hk hop hl
    · cases h
  · rename_i T p x hop
    split at h
    · rename_i l hl; exact sto_ok ht hf hk hop hl h ho
    · cases h
  · rename_i T n ps hop
    unfold elemTI at h
    split at h
    · rename_i E te hE
      split at h
      · rename_i e he
        split at h
        · rename_i xs hxs
          cases hb : (Nat.beq xs.length n && Nat.ble n 1000) with
          | false => rw [hb] at h; simp at h
          | true =>
            rw [hb] at h
            simp only [cond_true, Option.some.injEq, Prod.mk.injEq, List.length_map] at h
            obtain ⟨rfl, rfl, rfl⟩ := h
            simp only [Bool.and_eq_true] at hb
            have b1 := Nat.eq_of_beq_eq_true hb.1
            have b3 := Nat.le_of_ble_eq_true hb.2
            split at hE
            · rename_i ti hti
              split at hE
              · rename_i E' hE'
                split at hE
                · rename_i te' hte
                  simp only [Option.some.injEq, Prod.mk.injEq] at hE
                  obtain ⟨rfl, rfl⟩ := hE
                  exact bsl_op ht hf hk hop hti hE' hte he hxs b1 b3
                · cases hE
              · cases hE
            · cases hE
        · cases h
      · split at h
        · rename_i cs hcs
          cases hb : (Nat.beq ps.toList.length n && (Nat.blt 0 n && (Nat.ble n 1000 && (Nat.blt 0 te.size && Nat.ble te.size 1000)))) with
          | false => rw [hb] at h; cases h
          | true =>
            rw [hb] at h
            simp only [cond_true, Option.some.injEq, Prod.mk.injEq, List.length_map] at h
            obtain ⟨rfl, rfl, rfl⟩ := h
            simp only [Bool.and_eq_true] at hb
            obtain ⟨b1, b2, b3, b4, b5⟩ := hb
            have hE2 := elemTI_ok (by unfold elemTI; exact hE)
            obtain ⟨⟨ti, hti, hE'⟩, hte⟩ := hE2
            exact bsf_op ht hf hk hop hti hE' hte hcs (Nat.eq_of_beq_eq_true b1) (Nat.le_of_ble_eq_true b2) (Nat.le_of_ble_eq_true b3) (Nat.le_of_ble_eq_true b4) (Nat.le_of_ble_eq_true b5)
        · cases h
    · cases h
  · rename_i v' hop
    split at h
    · rename_i E te hn hE
      have hn := natN_nil hn
      split at h
      · rename_i e he
        simp only [Option.some.injEq, Prod.mk.injEq, List.length_map] at h
        obtain ⟨rfl, rfl, rfl⟩ := h
        have : v' = .slice none 0 0 := by
          unfold isNil at hn
          split at hn
          · rfl
          · cases hn
        subst this
        exact nilas_ok hk hop
      · split at h
        · rename_i U hU
          simp only [Option.some.injEq, Prod.mk.injEq, List.length_map] at h
          obtain ⟨rfl, rfl, rfl⟩ := h
          have := isNil_eq hn
          subst this
          exact nilmt_ok hk hop
        · cases h
    · cases h
  · rename_i xs ts hop
    split at h
    · rename_i s x T T2 h1 h2
      cases hbt : Nat.beq T T2 with
      | false => rw [hbt] at h; simp at h
      | true =>
      rw [hbt] at h
      simp only [cond_true] at h
      have e3 := Nat.eq_of_beq_eq_true hbt
      rcases orF_some h with h | h
      · exact appN_ok ht hf hk ⟨xs, ts, T2, hop, h1, h2, e3.symm⟩ h ho
      · exact appM_ok ht hf hk ⟨xs, ts, T2, hop, h1, h2, e3.symm⟩ h ho
    · cases h
  · rename_i T x lo hi hop
    exact (slc_ok ht hf hk hop h ho).1
  · rename_i T x lo hi m hop
    exact (slc3_ok ht hf hk hop h ho).1
  · rename_i T n c hop
    exact mks_ok ht hf hk hop h ho
  · cases h
end
end Go.Proofs.YtmnhfaaaaejpaaaGreat
