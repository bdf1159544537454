/-
  A symbolic run: the operations that only read do what it says. No program here.
-/
import Derived.Test.YtmnhfaaaaejpaaaGreatSymWp
namespace Go.Proofs.YtmnhfaaaaejpaaaGreat
open Go.RowKit

/-- structs of integers: equal cell for cell -/
def EqOk (P : Program) (tb : Tab) : Prop := ∀ T ti, getTI tb T = some ti → ti.eqs = true → ∀ (fs : Faces) l l' vs vs' r (x y : Operand) (w : World), l.length = ti.size → l'.length = ti.size → eqL std l l' = some r → vals fs l = some vs → vals fs l' = some vs' →
  (do eqGuard .eql T x y (.agg vs.toArray) (.agg vs'.toArray); binOp .eql T (.agg vs.toArray) (.agg vs'.toArray)).run P w = .ok (.bool r) w ∧
  (do eqGuard .neq T x y (.agg vs.toArray) (.agg vs'.toArray); binOp .neq T (.agg vs.toArray) (.agg vs'.toArray)).run P w = .ok (.bool !r) w

section
variable {P : Program} {tb : Tab} {B : World} {w : World} {hp : List Ch} {fr : List AV} {a : Act} {o : Oper}

abbrev Yields (P : Program) (hp : List Ch) (a : Act) (w : World) (o : Oper) (v : AV) : Prop := ∃ u, (execOp a.eval o).run P w = .ok (.value u) w ∧ v.rel (faces hp) u

theorem int_val {fs : Faces} {k : IntKind} {n : Int} {v : Value} (h : (Ce.int k n).val fs = some v) : v = .int k n := by simp only [Ce.val, Option.some.injEq] at h; exact h.symm
theorem bool_val {fs : Faces} {b : Bool} {v : Value} (h : (Ce.bool b).val fs = some v) : v = .bool b := by simp only [Ce.val, Option.some.injEq] at h; exact h.symm

theorem cmp_ok {op : BinOp} {k : IntKind} {x y : Int} {r : Bool} {T : TypeId} (X Y : Operand) (h : cmp std op x y = some r) :
    (do eqGuard op T X Y (.int k x) (.int k y); binOp op T (.int k x) (.int k y)).run P w = .ok (.bool r) w := by
  cases op <;> simp only [cmp, std, Option.some.injEq, reduceCtorEq] at h <;> subst h
  all_goals first | rfl | (simp [eqGuard, binOp, Op.intCmp]; done) | (simp [eqGuard, binOp, Op.intCmp, bne]; done)

theorem bin_ok (ht : TabOk P tb) (he : EqOk P tb) (hf : FrOk (faces hp) fr a.tmps) {op : BinOp} {T U : TypeId} {x y : Operand} {v : AV} {obs : List Prop} (hop : o.op = .binOp op T x y U)
    (h : bin std tb op T (ev fr x) (ev fr y) = some (v, obs)) (ho : All obs) : Yields P hp a w o v := by
  unfold bin at h
  split at h
  · rename_i k n k' m hx hy
    have e1 := int_val (ev_c hf hx)
    have e2 := int_val (ev_c hf hy)
    by_cases hk : k = k'
    · subst hk
      simp only [decide_true, cond_true] at h
      cases op <;> simp only [Option.some.injEq, Prod.mk.injEq] at h
      case add =>
        cases hwr : wrpB tb T with
        | true =>
          rw [hwr] at h
          simp only [cond_true, Option.some.injEq, Prod.mk.injEq] at h
          obtain ⟨rfl, rfl⟩ := h
          exact ⟨.int k (k.wrap (n + m)), by simp [execOp, hop, e1, e2, eqGuard, binOp, Op.intArith], .inr rfl⟩
        | false =>
          rw [hwr] at h
          simp only [cond_false, Option.some.injEq, Prod.mk.injEq] at h
          obtain ⟨rfl, rfl⟩ := h
          exact ⟨.int k (n + m), by simp [execOp, hop, e1, e2, eqGuard, binOp, Op.intArith]; exact ho.1, .inr rfl⟩
      case sub => obtain ⟨rfl, rfl⟩ := h; exact ⟨.int k (n - m), by simp [execOp, hop, e1, e2, eqGuard, binOp, Op.intArith]; exact ho.1, .inr rfl⟩
      case mul => obtain ⟨rfl, rfl⟩ := h; exact ⟨.int k (n * m), by simp [execOp, hop, e1, e2, eqGuard, binOp, Op.intArith]; exact ho.1, .inr rfl⟩
      case quo =>
        obtain ⟨rfl, rfl⟩ := h
        have h0 : m ≠ 0 := ho.1
        exact ⟨.int k (n.tdiv m), by simp [execOp, hop, e1, e2, eqGuard, binOp, Op.intDiv, h0]; exact ho.2.1, .inr rfl⟩
      case rem =>
        obtain ⟨rfl, rfl⟩ := h
        have h0 : m ≠ 0 := ho.1
        exact ⟨.int k (n.tmod m), by simp [execOp, hop, e1, e2, eqGuard, binOp, Op.intDiv, h0], .inr rfl⟩
      case shr =>
        cases hw : wide k with
        | false => rw [hw] at h; cases h
        | true =>
          rw [hw] at h
          simp only [cond_true, Option.some.injEq, Prod.mk.injEq] at h
          obtain ⟨rfl, rfl⟩ := h
          have h0 : 0 ≤ m ∧ m < ((65 : Nat) : Int) := ho.1
          have hb := Nat.eq_of_beq_eq_true hw
          exact ⟨.int k (n / 2 ^ m.toNat), by simp [execOp, hop, e1, e2, eqGuard, binOp_shr, shift_shr k k n m h0.1 (by omega)], .inr rfl⟩
      all_goals
        split at h
        · rename_i r hr
          simp only [Option.some.injEq, Prod.mk.injEq] at h
          obtain ⟨rfl, rfl⟩ := h
          have := cmp_ok (P := P) (w := w) (k := k) (T := T) x y hr
          refine ⟨.bool r, ?_, .inr rfl⟩
          simp only [execOp, hop, e1, e2]
          rw [Sem.run_bind, this]; rfl
        · cases h
    · simp [hk] at h
  · rename_i b b' hx hy
    have e1 := bool_val (ev_c hf hx)
    have e2 := bool_val (ev_c hf hy)
    split at h
    · rename_i ti hti
      cases hb : ti.bool with
      | false => simp [hb] at h
      | true =>
        simp only [hb, cond_true] at h
        have hu := (ht _ _ hti).isbool hb
        have hr : ∀ w, (Op.equal T (.bool b) (.bool b')).run P w = .ok (b == b') w := fun w => by
          have e : Op.maxDepth = 9999 + 1 := rfl
          rw [Op.equal, e]
          generalize 9999 = d
          simp only [Op.equalIn, Sem.run_bind, run_underlying hu, Result.andThen_ok, Sem.run_pure]
        cases op <;> simp only [Option.some.injEq, Prod.mk.injEq, reduceCtorEq] at h
        · obtain ⟨rfl, rfl⟩ := h; exact ⟨.bool (b == b'), by simp [execOp, hop, e1, e2, eqGuard, binOp, hr], .inr rfl⟩
        · obtain ⟨rfl, rfl⟩ := h; exact ⟨.bool !(b == b'), by simp [execOp, hop, e1, e2, eqGuard, binOp, hr], .inr rfl⟩
    · cases h
  · rename_i l l' hx hy
    obtain ⟨vs, hv, e1⟩ := ev_agg hf hx
    obtain ⟨vs', hv', e2⟩ := ev_agg hf hy
    split at h
    · rename_i ti hti
      cases hbb : (ti.eqs && (Nat.beq l.length ti.size && Nat.beq l'.length ti.size)) with
      | false => simp [hbb] at h
      | true =>
        simp only [hbb, cond_true] at h
        simp only [Bool.and_eq_true] at hbb
        have hb := hbb.1
        have hz1 := Nat.eq_of_beq_eq_true hbb.2.1
        have hz2 := Nat.eq_of_beq_eq_true hbb.2.2
        split at h
        · rename_i r hr
          simp only [Option.some.injEq, Prod.mk.injEq] at h
          obtain ⟨rfl, rfl⟩ := h
          have := (he T ti hti hb (faces hp) l l' vs vs' r x y w hz1 hz2 hr hv hv').1
          exact ⟨.bool r, by simp only [execOp, hop, e1, e2]; rw [Sem.run_bind, this]; rfl, .inr rfl⟩
        · rename_i r hr
          simp only [Option.some.injEq, Prod.mk.injEq] at h
          obtain ⟨rfl, rfl⟩ := h
          have := (he T ti hti hb (faces hp) l l' vs vs' r x y w hz1 hz2 hr hv hv').2
          exact ⟨.bool !r, by simp only [execOp, hop, e1, e2]; rw [Sem.run_bind, this]; rfl, .inr rfl⟩
        · cases h
    · cases h
  · cases h

theorem un_ok (hf : FrOk (faces hp) fr a.tmps) {op : UnOp} {T : TypeId} {x : Operand} {v : AV} {obs : List Prop} (hop : o.op = .unOp op T x)
    (h : un std op (ev fr x) = some (v, obs)) (ho : All obs) : Yields P hp a w o v := by
  unfold un at h
  split at h
  · rename_i k n hx
    have e1 := int_val (ev_c hf hx)
    cases op <;> simp only [Option.some.injEq, Prod.mk.injEq, reduceCtorEq] at h
    obtain ⟨rfl, rfl⟩ := h
    exact ⟨.int k (0 - n), by simp [execOp, hop, e1, Op.unary, Op.intArith]; simpa [std] using ho.1, .inr rfl⟩
  · rename_i b hx
    have e1 := bool_val (ev_c hf hx)
    cases op <;> simp only [Option.some.injEq, Prod.mk.injEq, reduceCtorEq] at h
    obtain ⟨rfl, rfl⟩ := h
    exact ⟨.bool !b, by simp [execOp, hop, e1, Op.unary], .inr rfl⟩
  · cases h

theorem elOf_some {i : Nat} {e : El} {l : List e.T} (h : elOf (hp.map Ch.ck) i = some ⟨e, l⟩) : ∃ d, hp[i]? = some d ∧ ((∃ q A c, d = .arr q A c e l) ∨ (∃ A c T, d = .own A c T e l) ∨ ∃ A, d = .ful A e l) := by
  unfold elOf at h
  split at h
  · rename_i q e' l' hk
    injection h with h
    obtain ⟨d, hd, hc⟩ := nthCk_some hk (by simp)
    cases d <;> simp [Ch.ck] at hc
    obtain ⟨rfl, rfl, hc⟩ := hc
    cases h; cases hc
    exact ⟨_, hd, .inl ⟨_, _, _, rfl⟩⟩
  · rename_i T e' l' hk
    injection h with h
    obtain ⟨d, hd, hc⟩ := nthCk_some hk (by simp)
    cases d <;> simp [Ch.ck] at hc
    obtain ⟨rfl, rfl, hc⟩ := hc
    cases h; cases hc
    exact ⟨_, hd, .inr (.inl ⟨_, _, _, rfl⟩)⟩
  · rename_i e' l' hk
    injection h with h
    obtain ⟨d, hd, hc⟩ := nthCk_some hk (by simp)
    cases d <;> simp [Ch.ck] at hc
    obtain ⟨rfl, hc⟩ := hc
    cases h; cases hc
    exact ⟨_, hd, .inr (.inr ⟨_, rfl⟩)⟩
  · cases h

/-- a cell of an element -/
theorem el_cell {i : Nat} (hr : ∀ c, hp[i]? = some c → ChOk B w (faces hp) c) {e : El} {l : List e.T} (h : elOf (hp.map Ch.ck) i = some ⟨e, l⟩) {k : Nat} (hkl : k < l.length) :
    ∃ b o, (∀ f, eptAt (faces hp) i k f = some (.pointer (some ⟨b, o + f, none⟩))) ∧ ∀ (f : Nat) v, (e.vals (l.getD k e.zero))[f]? = some v → w.cell? ⟨b, o + f, none⟩ = some v := by
  obtain ⟨d, hd, hc⟩ := elOf_some h
  have hfa : (faces hp)[i]? = some d.face := by simp [faces, hd]
  rcases hc with ⟨q, A, c, rfl⟩ | ⟨A, c, T, rfl⟩ | ⟨A, rfl⟩
  rotate_right
  · obtain ⟨_, _, h3⟩ := hr _ hd
    obtain ⟨b, o, rfl, h4⟩ := h3 (by omega)
    exact ⟨b, o + k * e.sz, fun f => by simp [eptAt, hfa, Ch.face], fun f v hv => h4 k hkl f v hv⟩
  · obtain ⟨_, _, _, h3⟩ := hr _ hd
    obtain ⟨b, o, rfl, h4⟩ := h3 (by omega)
    refine ⟨b, o + k * e.sz, fun f => by simp [eptAt, hfa, Ch.face], fun f v hv => h4 k hkl f v hv⟩
  · have h1 : w.ownsRow B.heap.size T e.sz (.slice A l.length c) l.length (e.flat l) := hr _ hd
    have h2 := h1
    rcases h2.2 with ⟨_, h0⟩ | ⟨g, cap, cur, hv, _⟩
    · omega
    · injection hv with hA
      subst hA
      refine ⟨g, k * e.sz, fun f => by simp [eptAt, hfa, Ch.face], fun f v hv => ?_⟩
      have hc := h1.cells (g := g) rfl
      have := hc _ _ (e.flat_at l k f v hkl hv)
      have ha : ∀ j, (⟨g, 0, none⟩ : Addr).add j = ⟨g, 0 + j, none⟩ := fun j => by unfold Addr.add; by_cases hj : j = 0 <;> simp [hj]
      rw [ha, Nat.zero_add] at this
      exact this

theorem cnv_ok (ht : TabOk P tb) (hf : FrOk (faces hp) fr a.tmps) {S D : TypeId} {x : Operand} {v : AV} {obs : List Prop} (hop : o.op = .convert S D x)
    (h : cnv std tb S D (ev fr x) = some (v, obs)) (ho : All obs) : Yields P hp a w o v := by
  unfold cnv at h
  split at h
  · rename_i k n hx
    have e1 := int_val (ev_c hf hx)
    split at h
    · rename_i ti ts hti hts
      split at h
      · rename_i k' hk
        simp only [Option.some.injEq, Prod.mk.injEq] at h
        obtain ⟨rfl, rfl⟩ := h
        obtain ⟨d, hd, _⟩ := (ht _ _ hts).und
        refine ⟨.int k' n, ?_, .inr rfl⟩
        simp [execOp, hop, e1, convert, run_underlying hd, run_underlying ((ht _ _ hti).ikind hk), Conv.intToInt]
        simpa [std] using ho.1
      · cases h
    · cases h
  · cases h

theorem vals_sub {fs : Faces} {cs : List Ce} {vs : List Value} (h : vals fs cs = some vs) (m n : Nat) : vals fs ((cs.drop m).take n) = some ((vs.drop m).take n) := by
  unfold vals at h ⊢
  rw [allv_iff] at h ⊢
  rw [List.map_take, List.map_drop, h, ← List.map_drop, ← List.map_take]
theorem pickL_val {fs : Faces} {cs : List Ce} {vs : List Value} (h : vals fs cs = some vs) {ag : Bool} {off sz : Nat} {v : AV} (hp : pickL ag off sz cs = some v) :
    (ag = true ∧ off + sz ≤ vs.length ∧ v.val fs = some (.agg ((vs.drop off).take sz).toArray)) ∨ (ag = false ∧ ∃ u, vs[off]? = some u ∧ v.val fs = some u) := by
  unfold pickL at hp
  cases ag
  · right
    simp only [nthC_eq] at hp
    split at hp
    · rename_i c hc
      injection hp with hp
      subst hp
      obtain ⟨u, hu, hv⟩ := vals_get h hc
      exact ⟨rfl, u, hu, hv⟩
    · cases hp
  · left
    simp only at hp
    cases hb : Nat.ble (off + sz) cs.length with
    | false => rw [hb] at hp; simp at hp
    | true =>
      rw [hb] at hp
      have h1 := Nat.le_of_ble_eq_true hb
      simp at hp
      subst hp
      refine ⟨rfl, by rw [vals_len h]; exact h1, ?_⟩
      simp only [AV.val, vals_sub h]

theorem add_at' (b o j : Nat) : (⟨b, o, none⟩ : Addr).add j = ⟨b, o + j, none⟩ := by unfold Addr.add; by_cases hj : j = 0 <;> simp [hj]

theorem ld_run {T : TypeId} {ti : TI} (ht : TiOk P T ti) {fs : Faces} {cs : List Ce} {vs : List Value} (h : vals fs cs = some vs) {off : Nat} {v : AV} (hp : pickL ti.agg off ti.size cs = some v) {g o0 : Nat}
    (hc : ∀ (j : Nat) u, vs[j]? = some u → w.cell? ⟨g, o0 + j, none⟩ = some u) : ∃ u, (loadVar T ⟨g, o0 + off, none⟩).run P w = .ok u w ∧ v.rel fs u := by
  rcases pickL_val h hp with ⟨h1, h2, h3⟩ | ⟨h1, u, h2, h3⟩
  · refine ⟨_, ?_, .inr h3⟩
    have hl : ((vs.drop off).take ti.size).length = ti.size := by simp; omega
    have := run_loadCells_list (P := P) w ⟨g, o0 + off, none⟩ ((vs.drop off).take ti.size) (fun j u hj => by
      rw [add_at']
      have hj' : vs[off + j]? = some u := by
        rw [List.getElem?_take] at hj
        split at hj
        · rw [List.getElem?_drop] at hj; exact hj
        · cases hj
      have := hc (off + j) u hj'
      rw [Nat.add_assoc]; exact this)
    rw [hl] at this
    simp only [loadVar, Sem.run_bind, ht.agg, Result.andThen_ok, h1, if_true, ht.sz, this, Sem.run_pure]
  · refine ⟨u, ?_, .inr h3⟩
    have := hc off u h2
    simp [loadVar, ht.agg, h1, this]

theorem ptr_val {i o g : Nat} {T : TypeId} {cs : List Ce} {v : Value} (h : (Ce.ptr i o).val (faces hp) = some v) (hi : hp[i]? = some (.blk g T cs)) : v = .pointer (some ⟨g, o, none⟩) := by
  have hfa : (faces hp)[i]? = some (Ch.blk g T cs).face := by simp [faces, hi]
  simp only [Ce.val, ptrAt, hfa, Ch.face] at h
  injection h with h
  rw [← h, Nat.zero_add]

theorem ptr_valr {i o g : Nat} {T : TypeId} {cs : List Ce} {v : Value} (h : (Ce.ptr i o).val (faces hp) = some v) (hi : hp[i]? = some (.ro g T cs)) : v = .pointer (some ⟨g, o, none⟩) := by
  have hfa : (faces hp)[i]? = some (Ch.ro g T cs).face := by simp [faces, hi]
  simp only [Ce.val, ptrAt, hfa, Ch.face] at h
  injection h with h
  rw [← h, Nat.zero_add]

theorem ld_ok (ht : TabOk P tb) (hf : FrOk (faces hp) fr a.tmps) {T : TypeId} {x : Operand} {v : AV} {obs : List Prop} (hop : o.op = .load T x)
    (hr : ∀ i, ldIdx (ev fr x) = some i → ∀ c, hp[i]? = some c → ChOk B w (faces hp) c) (h : ld std tb (hp.map Ch.ck) T (ev fr x) = some (v, obs)) (ho : All obs) : Yields P hp a w o v := by
  unfold ld at h
  split at h
  · rename_i i j hx
    have e1 := ev_c hf hx
    split at h
    · rename_i ti hti
      split at h
      · rename_i T' cs hck
        obtain ⟨d, hd, hc⟩ := nthCk_some hck (by simp)
        cases d <;> simp [Ch.ck] at hc
        rename_i g T2 cs2
        obtain ⟨rfl, rfl⟩ := hc
        split at h
        · rename_i v' hv'
          simp only [Option.some.injEq, Prod.mk.injEq] at h
          obtain ⟨rfl, rfl⟩ := h
          obtain ⟨vs, h1, h2, _⟩ := hr i (by rw [hx]; rfl) _ hd
          obtain ⟨u, hu, hr⟩ := ld_run (w := w) (ht _ _ hti) h1 hv' (g := g) (o0 := 0) (fun j u hj => by rw [Nat.zero_add, h2.cell]; simpa using hj)
          rw [Nat.zero_add] at hu
          exact ⟨u, by simp only [execOp, hop, ptr_val e1 hd, Instr.loadAt, Instr.sureAddr, Sem.run_bind, Sem.run_pure, Result.andThen_ok, hu], hr⟩
        · cases h
      · rename_i T' cs hck
        obtain ⟨d, hd, hc⟩ := nthCk_some hck (by simp)
        cases d <;> simp [Ch.ck] at hc
        rename_i g T2 cs2
        obtain ⟨rfl, rfl⟩ := hc
        split at h
        · rename_i v' hv'
          simp only [Option.some.injEq, Prod.mk.injEq] at h
          obtain ⟨rfl, rfl⟩ := h
          obtain ⟨vs, h1, h2⟩ := hr i (by rw [hx]; rfl) _ hd
          obtain ⟨u, hu, hr⟩ := ld_run (w := w) (ht _ _ hti) h1 hv' (g := g) (o0 := 0) (fun j u hj => by rw [Nat.zero_add]; exact h2 j u hj)
          rw [Nat.zero_add] at hu
          exact ⟨u, by simp only [execOp, hop, ptr_valr e1 hd, Instr.loadAt, Instr.sureAddr, Sem.run_bind, Sem.run_pure, Result.andThen_ok, hu], hr⟩
        · cases h
      · cases h
    · cases h
  · rename_i i k f hx
    have e1 := ev_c hf hx
    split at h
    · rename_i ti hti
      split at h
      · rename_i e l hel
        split at h
        · rename_i v' hv'
          simp only [Option.some.injEq, Prod.mk.injEq] at h
          obtain ⟨rfl, rfl⟩ := h
          have hkl : k < l.length := ho.1
          obtain ⟨b, o', hp1, hc⟩ := el_cell (hr i (by rw [hx]; rfl)) hel hkl
          simp only [Ce.val, hp1] at e1
          injection e1 with e1
          obtain ⟨u, hu, hr⟩ := ld_run (w := w) (ht _ _ hti) (e.vals_cells (l.getD k e.zero) (faces hp)) hv' (g := b) (o0 := o') hc
          exact ⟨u, by simp only [execOp, hop, ← e1, Instr.loadAt, Instr.sureAddr, Sem.run_bind, Sem.run_pure, Result.andThen_ok, hu], hr⟩
        · cases h
      · cases h
    · cases h
  · cases h

theorem fieldPlace_run {f : Field} {sz : Nat} (h0 : 0 < sz) (hs : ∀ w, (sizeOf f.type).run P w = .ok sz w) (b o' : Nat) : (fieldPlace ⟨b, o', none⟩ f).run P w = .ok ⟨b, o' + f.offset, none⟩ w := by
  have : ¬ sz = 0 := by omega
  simp [fieldPlace, hs, this, add_at']

theorem ptrAt_add {fs : Faces} {i j k : Nat} {v : Value} (h : ptrAt fs i j = some v) : ∃ b o, v = .pointer (some ⟨b, o, none⟩) ∧ ptrAt fs i (j + k) = some (.pointer (some ⟨b, o + k, none⟩)) := by
  unfold ptrAt at h ⊢
  split at h
  · rename_i ad _ _ _ _ hf
    injection h with h
    exact ⟨_, _, h.symm, by simp [Nat.add_assoc]⟩
  · cases h
theorem eptAt_add {fs : Faces} {i m j k : Nat} {v : Value} (h : eptAt fs i m j = some v) : ∃ b o, v = .pointer (some ⟨b, o, none⟩) ∧ eptAt fs i m (j + k) = some (.pointer (some ⟨b, o + k, none⟩)) := by
  unfold eptAt at h ⊢
  split at h
  · rename_i ad _ _ _ _ hf
    injection h with h
    exact ⟨_, _, h.symm, by simp [Nat.add_assoc]⟩
  · cases h

theorem fad_ok (ht : TabOk P tb) (hf : FrOk (faces hp) fr a.tmps) {T : TypeId} {x : Operand} {k : Nat} {v : AV} {obs : List Prop} (hop : o.op = .fieldAddr T x k)
    (h : fad tb T k (ev fr x) = some (v, obs)) : Yields P hp a w o v := by
  unfold fad at h
  split at h
  · rename_i i j hx
    have e1 := ev_c hf hx
    split at h
    · rename_i ti hti
      rw [nthF_eq] at h
      split at h
      · rename_i off sz ag hfl
        simp only [Option.some.injEq, Prod.mk.injEq] at h
        obtain ⟨rfl, rfl⟩ := h
        obtain ⟨F, f, hu, hF, e2, h0, hs, _⟩ := (ht _ _ hti).fld hfl
        obtain ⟨b, o', rfl', hadd⟩ := ptrAt_add (k := off) e1
        refine ⟨.pointer (some ⟨b, o' + off, none⟩), ?_, .inr hadd⟩
        simp only [execOp, hop, rfl', Instr.fieldAt, Sem.run_bind, run_underlying hu, Result.andThen_ok, hF, Instr.sureAddr, Sem.run_pure, fieldPlace_run h0 hs, e2]
      · cases h
    · cases h
  · rename_i i m j hx
    have e1 := ev_c hf hx
    split at h
    · rename_i ti hti
      rw [nthF_eq] at h
      split at h
      · rename_i off sz ag hfl
        simp only [Option.some.injEq, Prod.mk.injEq] at h
        obtain ⟨rfl, rfl⟩ := h
        obtain ⟨F, f, hu, hF, e2, h0, hs, _⟩ := (ht _ _ hti).fld hfl
        obtain ⟨b, o', rfl', hadd⟩ := eptAt_add (k := off) e1
        refine ⟨.pointer (some ⟨b, o' + off, none⟩), ?_, .inr hadd⟩
        simp only [execOp, hop, rfl', Instr.fieldAt, Sem.run_bind, run_underlying hu, Result.andThen_ok, hF, Instr.sureAddr, Sem.run_pure, fieldPlace_run h0 hs, e2]
      · cases h
    · cases h
  · cases h

theorem fld_ok (ht : TabOk P tb) (hf : FrOk (faces hp) fr a.tmps) {T : TypeId} {x : Operand} {k : Nat} {v : AV} {obs : List Prop} (hop : o.op = .field T x k)
    (h : fld tb T k (ev fr x) = some (v, obs)) : Yields P hp a w o v := by
  unfold fld at h
  split at h
  · rename_i l hx
    obtain ⟨vs, hv, e1⟩ := ev_agg hf hx
    split at h
    · rename_i ti hti
      rw [nthF_eq] at h
      split at h
      · rename_i off sz ag hfl
        obtain ⟨F, f, hu, hF, e2, h0, hs, hag⟩ := (ht _ _ hti).fld hfl
        split at h
        · rename_i v' hv'
          simp only [Option.some.injEq, Prod.mk.injEq] at h
          obtain ⟨rfl, rfl⟩ := h
          rcases pickL_val hv hv' with ⟨h1, h2, h3⟩ | ⟨h1, u, h2, h3⟩
          · refine ⟨_, ?_, .inr h3⟩
            have e3 : (vs.drop off).take sz = (vs.take (off + sz)).drop off := by rw [List.drop_take]; congr 1; omega
            simp [execOp, hop, e1, Instr.field, run_underlying hu, hF, asAgg, part, hag, h1, hs, e2, e3]
          · refine ⟨u, ?_, .inr h3⟩
            simp [execOp, hop, e1, Instr.field, run_underlying hu, hF, asAgg, part, hag, h1, e2, h2]
        · cases h
      · cases h
    · cases h
  · cases h

theorem sl_addr {w0 : World} (hk : HOk B hp w0) {i : Nat} {e : El} {l : List e.T} (h : elOf (hp.map Ch.ck) i = some ⟨e, l⟩) {v : Value} (hv : (Ce.sl i).val (faces hp) = some v) :
    (∃ A c, v = .slice A l.length c) ∧ (0 < l.length → ∃ b o c, v = .slice (some ⟨b, o, none⟩) l.length c ∧ ∀ k f, eptAt (faces hp) i k f = some (.pointer (some ⟨b, o + k * e.sz + f, none⟩))) := by
  obtain ⟨d, hd, hc⟩ := elOf_some h
  have hfa : (faces hp)[i]? = some d.face := by simp [faces, hd]
  simp only [Ce.val, hfa] at hv
  injection hv with hv
  rcases hc with ⟨q, A, c, rfl⟩ | ⟨A, c, T, rfl⟩ | ⟨A, rfl⟩
  rotate_right
  · refine ⟨⟨_, _, hv.symm⟩, fun h0 => ?_⟩
    obtain ⟨_, _, h3⟩ := hk.ok i _ hd
    obtain ⟨b, o, rfl, h4⟩ := h3 h0
    exact ⟨b, o, l.length, hv.symm, fun k f => by simp [eptAt, hfa, Ch.face]⟩
  · refine ⟨⟨_, _, hv.symm⟩, fun h0 => ?_⟩
    obtain ⟨_, _, _, h3⟩ := hk.ok i _ hd
    obtain ⟨b, o, rfl, h4⟩ := h3 h0
    exact ⟨b, o, c, hv.symm, fun k f => by simp [eptAt, hfa, Ch.face]⟩
  · refine ⟨⟨_, _, hv.symm⟩, fun h0 => ?_⟩
    have h2 := hk.ok i _ hd
    rcases h2.2 with ⟨_, h0'⟩ | ⟨g, cap, cur, hv', _⟩
    · omega
    · injection hv' with hA
      subst hA
      exact ⟨g, 0, c, hv.symm, fun k f => by simp [eptAt, hfa, Ch.face]⟩

theorem iad_ok {w0 : World} (ht : TabOk P tb) (hf : FrOk (faces hp) fr a.tmps) (hk : HOk B hp w0) {T : TypeId} {x y : Operand} {v : AV} {obs : List Prop} (hop : o.op = .indexAddr T x y)
    (h : iad std tb (hp.map Ch.ck) T (ev fr x) (ev fr y) = some (v, obs)) (ho : All obs) : Yields P hp a w o v := by
  unfold iad at h
  split at h
  · rename_i i k n hx hy
    have e1 := ev_c hf hx
    have e2 := int_val (ev_c hf hy)
    split at h
    · rename_i ti hti
      split at h
      · rename_i E hE
        split at h
        · rename_i te e l hte hel
          cases hb : Nat.beq te.size e.sz with
          | false => rw [hb] at h; simp at h
          | true =>
            rw [hb] at h
            simp only [cond_true, Option.some.injEq, Prod.mk.injEq] at h
            obtain ⟨rfl, rfl⟩ := h
            have hsz := Nat.eq_of_beq_eq_true hb
            obtain ⟨h0, hl⟩ : 0 ≤ n ∧ n < (l.length : Int) := ho.1
            obtain ⟨b, o', c, e3, e4⟩ := (sl_addr hk hel e1).2 (by omega)
            refine ⟨.pointer (some ⟨b, o' + n.toNat * e.sz, none⟩), ?_, .inr (by simpa [AV.val, Ce.val, std] using e4 n.toNat 0)⟩
            simp [execOp, hop, e2, e3, Instr.indexAt, asIntOf, run_underlying ((ht _ _ hti).slice hE), (ht _ _ hte).sz, hsz, h0, hl, add_at']
        · cases h
      · cases h
    · cases h
  · rename_i i m k n hx hy
    have e1 := ev_c hf hx
    have e2 := int_val (ev_c hf hy)
    split at h
    · rename_i ti hti
      split at h
      · rename_i E hE
        split at h
        · rename_i te hte hb
          simp only [Bool.and_eq_true] at hb
          simp only [Option.some.injEq, Prod.mk.injEq] at h
          obtain ⟨rfl, rfl⟩ := h
          have hnm : n < m := Nat.le_of_ble_eq_true hb.2
          obtain ⟨g, hg⟩ : ∃ g, (faces hp)[i]? = some ⟨some ⟨g, 0, none⟩, 0, 0, 1, []⟩ := by
            cases hi : hp[i]? with
            | none =>
              have h1 := hb.1
              rw [nthCk_eq, List.getD_eq_getElem?_getD, List.getElem?_map, hi] at h1
              cases h1
            | some d =>
              have h1 := hb.1
              rw [nthCk_eq, List.getD_eq_getElem?_getD, List.getElem?_map, hi] at h1
              cases d with
              | blk g T cs => exact ⟨g, by simp [faces, hi, Ch.face]⟩
              | ro g T cs => exact ⟨g, by simp [faces, hi, Ch.face]⟩
              | arr q A c e l => cases h1
              | own A c T e l => cases h1
              | gone f => cases h1
              | ful A e l => cases h1
              | keep l => cases h1
              | mat q A c rs ll => cases h1
              | mtw A c T U rs ll => cases h1
          simp only [Ce.val, hg, Option.some.injEq] at e1
          refine ⟨.pointer (some ⟨g, n * te.size, none⟩), ?_, .inr (by simp [AV.val, Ce.val, ptrAt, hg])⟩
          have h0 : (0 : Int) ≤ Int.ofNat n := Int.natCast_nonneg n
          have hl : Int.ofNat n < (m : Int) := Int.ofNat_lt.2 hnm
          simp [execOp, hop, e2, ← e1, Instr.indexAt, asIntOf, run_underlying ((ht _ _ hti).slice hE), (ht _ _ hte).sz, hnm, add_at']
        · cases h
      · cases h
    · cases h
  · cases h

theorem allv_at {fs : Faces} {l : List TE} {vs : List Value} (h : allv (l.map (TE.val fs)) = some vs) {i : Nat} {t : TE} (ht : l[i]? = some t) : ∃ v, vs[i]? = some v ∧ t.val fs = some v := by
  have := allv_get h i
  rw [List.getElem?_map, ht] at this
  cases hv : vs[i]? with
  | none => rw [hv] at this; simp at this
  | some v => rw [hv] at this; simp at this; exact ⟨v, rfl, this⟩
theorem xtr_ok (hf : FrOk (faces hp) fr a.tmps) {x : Operand} {k : Nat} {v : AV} {obs : List Prop} (hop : o.op = .extract x k)
    (h : xtr k (ev fr x) = some (v, obs)) : Yields P hp a w o v := by
  unfold xtr at h
  split at h
  · rename_i l hx
    have e0 := ev_ok hf x
    rw [hx] at e0
    rcases e0 with e0 | e0
    · cases e0
    · simp only [AV.val] at e0
      cases hl : allv (l.map (TE.val (faces hp))) with
      | none => rw [hl] at e0; simp at e0
      | some vs =>
        rw [hl] at e0
        simp at e0
        rw [nthT_eq] at h
        split at h
        · rename_i c hc
          simp only [Option.some.injEq, Prod.mk.injEq] at h
          obtain ⟨rfl, rfl⟩ := h
          obtain ⟨u, hu, hv⟩ := allv_at hl hc
          exact ⟨u, by simp [execOp, hop, ← e0, Instr.extract, hu], .inr hv⟩
        · rename_i c hc
          simp only [Option.some.injEq, Prod.mk.injEq] at h
          obtain ⟨rfl, rfl⟩ := h
          obtain ⟨u, hu, hv⟩ := allv_at hl hc
          exact ⟨u, by simp [execOp, hop, ← e0, Instr.extract, hu], .inr hv⟩
        · cases h
  · cases h

theorem caps_ok (hf : FrOk (faces hp) fr a.tmps) : ∀ {xs : List Operand} {l : List Nat}, caps fr xs = some l → allv (l.map fun i => ptrAt (faces hp) i 0) = some (xs.map a.eval) := by
  intro xs
  induction xs with
  | nil => intro l h; simp [caps] at h; subst h; rfl
  | cons x xs ih =>
    intro l h
    unfold caps at h
    split at h
    · rename_i i r hi hr
      injection h with h
      subst h
      unfold capOf at hi
      split at hi
      · rename_i j hj
        injection hi with hi
        subst hi
        have := ev_c hf hj
        simp only [Ce.val] at this
        simp [allv, this, ih hr]
      · cases hi
    · cases h

theorem mkf_ok (hf : FrOk (faces hp) fr a.tmps) {f : FuncId} {first cs : Array Operand} {l : List Nat} (hop : o.op = .makeFunc (.func f) first cs) (h1 : first.toList = [])
    (h : caps fr cs.toList = some l) : Yields P hp a w o (.c (.fn f l)) := by
  have h2 := caps_ok hf h
  have h3 : first = #[] := by cases first; simpa using h1
  refine ⟨.func (.func f) #[] (cs.map a.eval), by simp [execOp, hop, Instr.makeFunc, h3], .inr ?_⟩
  simp only [AV.val, Ce.val, h2]
  congr 1
  simp [← Array.toList_map]

theorem len_ok {w0 : World} (ht : TabOk P tb) (hf : FrOk (faces hp) fr a.tmps) (hk : HOk B hp w0) {T : TypeId} {x : Operand} {v : AV} {obs : List Prop} (hop : ∃ xs ts, o.op = .call ⟨.builtin .len, xs, ts⟩ ∧ xs.toList = [x] ∧ ts.toList = [T])
    (h : len1 std tb (hp.map Ch.ck) T (ev fr x) = some (v, obs)) : Yields P hp a w o v := by
  obtain ⟨xs, ts, hop, h1, h2⟩ := hop
  have h1' : xs = #[x] := by cases xs; simpa using h1
  have h2' : ts = #[T] := by cases ts; simpa using h2
  subst h1'; subst h2'
  unfold len1 at h
  split at h
  · rename_i i hx
    have e1 := ev_c hf hx
    split at h
    · rename_i ti hti
      split at h
      · rename_i E e l hE hel
        simp only [Option.some.injEq, Prod.mk.injEq] at h
        obtain ⟨rfl, rfl⟩ := h
        obtain ⟨A, c, e2⟩ := (sl_addr hk hel e1).1
        exact ⟨.int .i64 l.length, by simp [execOp, hop, resolve, invoke, builtin, Builtin.len_, e2, run_underlying ((ht _ _ hti).slice hE), goInt], .inr rfl⟩
      · cases h
    · cases h
  · rename_i hx
    have e1 := ev_c hf hx
    simp only [Ce.val] at e1
    injection e1 with e1
    split at h
    · rename_i ti hti
      split at h
      · rename_i E hE
        simp only [Option.some.injEq, Prod.mk.injEq] at h
        obtain ⟨rfl, rfl⟩ := h
        exact ⟨.int .i64 0, by simp [execOp, hop, resolve, invoke, builtin, Builtin.len_, ← e1, run_underlying ((ht _ _ hti).slice hE), goInt], .inr rfl⟩
      · cases h
    · cases h
  · rename_i i n hx
    have e1 := ev_c hf hx
    simp only [Ce.val] at e1
    split at e1
    · injection e1 with e1
      split at h
      · rename_i ti hti
        split at h
        · rename_i E hE
          simp only [Option.some.injEq, Prod.mk.injEq] at h
          obtain ⟨rfl, rfl⟩ := h
          exact ⟨.int .i64 (Int.ofNat n), by simp [execOp, hop, resolve, invoke, builtin, Builtin.len_, ← e1, run_underlying ((ht _ _ hti).slice hE), goInt], .inr rfl⟩
        · cases h
      · cases h
    · cases e1
  · cases h

theorem min_ok (hf : FrOk (faces hp) fr a.tmps) {x y : Operand} {v : AV} {obs : List Prop} (hop : ∃ xs ts, o.op = .call ⟨.builtin .min, xs, ts⟩ ∧ xs.toList = [x, y])
    (h : mm (std .min) (ev fr x) (ev fr y) = some (v, obs)) : Yields P hp a w o v := by
  obtain ⟨xs, ts, hop, h1⟩ := hop
  have h1' : xs = #[x, y] := by cases xs; simpa using h1
  subst h1'
  unfold mm at h
  split at h
  · rename_i k n k' m hx hy
    have e1 := int_val (ev_c hf hx)
    have e2 := int_val (ev_c hf hy)
    by_cases hk : k = k'
    · subst hk
      simp only [decide_true, cond_true, Option.some.injEq, Prod.mk.injEq] at h
      obtain ⟨rfl, rfl⟩ := h
      exact ⟨.int k (if m < n then m else n), by simp [execOp, hop, resolve, invoke, builtin, Builtin.min_, Builtin.min2, e1, e2], .inr rfl⟩
    · simp [hk] at h
  · cases h
theorem max_ok (hf : FrOk (faces hp) fr a.tmps) {x y : Operand} {v : AV} {obs : List Prop} (hop : ∃ xs ts, o.op = .call ⟨.builtin .max, xs, ts⟩ ∧ xs.toList = [x, y])
    (h : mm (std .max) (ev fr x) (ev fr y) = some (v, obs)) : Yields P hp a w o v := by
  obtain ⟨xs, ts, hop, h1⟩ := hop
  have h1' : xs = #[x, y] := by cases xs; simpa using h1
  subst h1'
  unfold mm at h
  split at h
  · rename_i k n k' m hx hy
    have e1 := int_val (ev_c hf hx)
    have e2 := int_val (ev_c hf hy)
    by_cases hk : k = k'
    · subst hk
      simp only [decide_true, cond_true, Option.some.injEq, Prod.mk.injEq] at h
      obtain ⟨rfl, rfl⟩ := h
      exact ⟨.int k (if m > n then m else n), by simp [execOp, hop, resolve, invoke, builtin, Builtin.max_, Builtin.max2, e1, e2], .inr rfl⟩
    · simp [hk] at h
  · cases h

theorem maxL_run (hf : FrOk (faces hp) fr a.tmps) : ∀ (r : List Operand) (k : IntKind) (n : Int) (v : AV), mxL std fr r (.c (.int k n)) = some v → ∃ m, v = .c (.int k m) ∧ Sem.run P (List.foldlM Builtin.max2 (Value.int k n) (r.map a.eval)) w = .ok (.int k m) w := by
  intro r
  induction r with
  | nil =>
    intro k n v h
    simp only [mxL, Option.some.injEq] at h
    exact ⟨n, h.symm, by simp⟩
  | cons x r ih =>
    intro k n v h
    unfold mxL at h
    split at h
    · rename_i k1 n1 k' m e1 hx
      injection e1 with e1
      injection e1 with e1 e2
      subst e1; subst e2
      have e3 := int_val (ev_c hf hx)
      by_cases hk : k = k'
      · subst hk
        simp only [decide_true, cond_true] at h
        obtain ⟨q, hq, hr⟩ := ih _ _ _ h
        refine ⟨q, hq, ?_⟩
        rw [List.map_cons, List.foldlM_cons, e3]
        simp only [Builtin.max2, Sem.run_bind]
        have hs : std .max n m = if m > n then m else n := rfl
        rw [hs] at hr
        simpa using hr
      · simp [hk] at h
    · cases h
theorem maxL_ok (hf : FrOk (faces hp) fr a.tmps) {x : Operand} {r : List Operand} {v : AV} {obs : List Prop} (hop : ∃ xs ts, o.op = .call ⟨.builtin .max, xs, ts⟩ ∧ xs.toList = x :: r)
    (h : (bif isIntA (ev fr x) then (match mxL std fr r (ev fr x) with
      | some v => some (v, [])
      | none => none) else none) = some (v, obs)) : Yields P hp a w o v := by
  obtain ⟨xs, ts, hop, h1⟩ := hop
  have h1' : xs = (x :: r).toArray := by rw [← h1]
  subst h1'
  cases hx : ev fr x with
  | c e =>
    cases e with
    | int k n =>
      rw [hx] at h
      simp only [isIntA, cond_true] at h
      split at h
      · rename_i v' hv'
        simp only [Option.some.injEq, Prod.mk.injEq] at h
        obtain ⟨rfl, rfl⟩ := h
        obtain ⟨m, rfl, hr⟩ := maxL_run (P := P) (w := w) hf r k n _ hv'
        have e1 := int_val (ev_c hf hx)
        exact ⟨.int k m, by simp [execOp, hop, resolve, invoke, builtin, Builtin.max_, e1, hr], .inr rfl⟩
      · cases h
    | _ => rw [hx] at h; cases h
  | _ => rw [hx] at h; cases h

/-! matrices -/
theorem flat_m1 (l : List Int) : El.i1.flat l = l.map (Value.int .i64) := by
  unfold El.flat
  rw [show El.i1.vals = fun n : Int => [Value.int .i64 n] from rfl]
  induction l with
  | nil => rfl
  | cons x l ih => simp [List.flatMap_cons, ih]
theorem i1_val (l : List Int) {k : Nat} (hk : k < l.length) : (El.i1.flat l)[k]? = some (.int .i64 (l.getD k El.i1.zero)) := by
  rw [flat_m1, List.getElem?_map, List.getD_eq_getElem?_getD, List.getElem?_eq_getElem hk]; rfl
theorem ownsRow_row {base : Nat} {U : TypeId} {v : Value} {l : List Int} (h : w.ownsRow base U 1 v l.length (El.i1.flat l)) : RowOk w v l := by
  rcases h.2 with ⟨h1, h2⟩ | ⟨g, cap, cur, hv, _, _, h3, h4, _⟩
  · exact ⟨none, 0, by rw [h1, h2], by omega, Nat.zero_le _, fun h0 => by omega⟩
  · refine ⟨some ⟨g, 0, none⟩, cap, hv, h3, h4, fun h0 => ⟨g, 0, rfl, fun k hk f u hu => ?_⟩⟩
    have hf : f = 0 := by
      have := (List.getElem?_eq_some_iff.1 hu).1
      have h9 := El.i1.vals_len (l.getD k El.i1.zero)
      have h8 : El.i1.sz = 1 := rfl
      omega
    subst hf
    have hu' : Value.int .i64 (l.getD k El.i1.zero) = u := by simpa [El.vals] using hu
    subst hu'
    have hc := h.cells (g := g) (by rw [hv]; rfl) k _ (i1_val l hk)
    rw [add_at'] at hc
    have e1 : 0 + k * El.i1.sz + 0 = 0 + k := by simp [El.sz]
    rw [e1]; exact hc
theorem MtwOk.mat {base : Nat} {A : Option Addr} {cap : Nat} {T U : TypeId} {rs : List Value} {ll : List (List Int)} (h : MtwOk w base A cap T U rs ll) : MatOk w A cap rs ll := by
  obtain ⟨h1, h2, h3, h4⟩ := h
  refine ⟨h1, ?_, ?_, fun h0 => ?_, fun k v l hk hl => ownsRow_row (h3 k v l hk hl)⟩
  · rcases h2.2 with ⟨_, h5⟩ | ⟨g, cap', cur, hv, _, _, h5, _⟩
    · omega
    · injection hv with _ _ hv; omega
  · rcases h2.2 with ⟨h5, _⟩ | ⟨g, cap', cur, hv, _, _, _, h5, _⟩
    · injection h5 with _ _ h5; simp only [maxLen]; omega
    · injection hv with _ _ hv; omega
  · rcases h2.2 with ⟨_, h5⟩ | ⟨g, cap', cur, hv, _⟩
    · omega
    · injection hv with hA
      subst hA
      refine ⟨g, 0, rfl, fun k v hk => ?_⟩
      have := h2.cells (g := g) rfl k v hk
      rw [add_at'] at this
      exact this
theorem matOf_some {i : Nat} {ll : List (List Int)} (h : matOf (hp.map Ch.ck) i = some ll) : ∃ d, hp[i]? = some d ∧ ((∃ q A c rs, d = .mat q A c rs ll) ∨ ∃ A c T U rs, d = .mtw A c T U rs ll) := by
  unfold matOf at h
  split at h
  · rename_i q l' hk
    injection h with h
    obtain ⟨d, hd, hc⟩ := nthCk_some hk (by simp)
    cases d <;> simp [Ch.ck] at hc
    obtain ⟨rfl, rfl⟩ := hc
    subst h
    exact ⟨_, hd, .inl ⟨_, _, _, _, rfl⟩⟩
  · rename_i T U l' hk
    injection h with h
    obtain ⟨d, hd, hc⟩ := nthCk_some hk (by simp)
    cases d <;> simp [Ch.ck] at hc
    obtain ⟨rfl, rfl, rfl⟩ := hc
    subst h
    exact ⟨_, hd, .inr ⟨_, _, _, _, _, rfl⟩⟩
  · cases h
theorem mat_rows {i : Nat} {ll : List (List Int)} (h : matOf (hp.map Ch.ck) i = some ll) : ∃ A c rs, (faces hp)[i]? = some ⟨A, ll.length, c, 1, rs⟩ ∧ ∀ z, (∀ d, hp[i]? = some d → ChOk B z (faces hp) d) → MatOk z A c rs ll := by
  obtain ⟨d, hd, hc⟩ := matOf_some h
  rcases hc with ⟨q, A, c, rs, rfl⟩ | ⟨A, c, T, U, rs, rfl⟩
  · exact ⟨A, c, rs, by simp [faces, hd, Ch.face], fun z hz => (hz _ hd).2⟩
  · exact ⟨A, c, rs, by simp [faces, hd, Ch.face], fun z hz => MtwOk.mat (hz _ hd)⟩
theorem oneTI_ok (ht : TabOk P tb) {T : TypeId} (h : oneTI tb T = true) : ∃ E, P.underlying T = some (.slice E) ∧ ∀ w, (sizeOf E).run P w = .ok 1 w := by
  unfold oneTI at h
  split at h
  · rename_i ti hti
    split at h
    · rename_i E hE
      split at h
      · rename_i te hte
        have := Nat.eq_of_beq_eq_true h
        refine ⟨E, (ht _ _ hti).slice hE, fun w => ?_⟩
        have h2 := (ht _ _ hte).sz w
        rw [this] at h2
        exact h2
      · cases h
    · cases h
  · cases h
theorem notAgg_ok (ht : TabOk P tb) {T : TypeId} (h : notAgg tb T = true) (w : World) : (isAgg T).run P w = .ok false w := by
  unfold notAgg at h
  split at h
  · rename_i ti hti
    have := (ht _ _ hti).agg w
    cases hb : ti.agg with
    | true => rw [hb] at h; cases h
    | false => rw [hb] at this; exact this
  · cases h
theorem row_ok {A : Option Addr} {c : Nat} {rs : List Value} {ll : List (List Int)} (h : MatOk w A c rs ll) {k : Nat} {v : Value} (hv : rs[k]? = some v) : RowOk w v (ll.getD k []) := by
  obtain ⟨h1, _, _, _, h5⟩ := h
  have hk := (List.getElem?_eq_some_iff.1 hv).1
  have hl : ll[k]? = some (ll[k]'(by omega)) := List.getElem?_eq_getElem (by omega)
  have := h5 k v _ hv hl
  rw [List.getD_eq_getElem?_getD, hl]
  exact this
theorem rowAt_some {fs : Faces} {i k n c z : Nat} {A : Option Addr} {rs : List Value} {v : Value} (hf : fs[i]? = some ⟨A, n, c, z, rs⟩) (h : rowAt fs i k = some v) : rs[k]? = some v := by
  unfold rowAt at h
  rw [hf] at h
  exact h
theorem iadM_ok {w0 : World} (ht : TabOk P tb) (hf : FrOk (faces hp) fr a.tmps) (hk : HOk B hp w0) {T : TypeId} {x y : Operand} {v : AV} {obs : List Prop} (hop : o.op = .indexAddr T x y)
    (h : iadM std tb (hp.map Ch.ck) T (ev fr x) (ev fr y) = some (v, obs)) (ho : All obs) : Yields P hp a w o v := by
  unfold iadM at h
  split at h
  · rename_i i kk n hx hy
    have e1 := ev_c hf hx
    have e2 := int_val (ev_c hf hy)
    split at h
    · rename_i ll hm h1
      simp only [Option.some.injEq, Prod.mk.injEq] at h
      obtain ⟨rfl, rfl⟩ := h
      obtain ⟨A, c, rs, hfa, hM⟩ := mat_rows (B := B) hm
      obtain ⟨_, _, _, h4, _⟩ := hM w0 (fun d hd => hk.ok i d hd)
      obtain ⟨h0, hl⟩ : 0 ≤ n ∧ n < (ll.length : Int) := ho.1
      obtain ⟨b, o', rfl, _⟩ := h4 (by omega)
      simp only [Ce.val, hfa, Option.some.injEq] at e1
      obtain ⟨E, hu, hz⟩ := oneTI_ok ht h1
      refine ⟨.pointer (some ⟨b, o' + n.toNat, none⟩), ?_, .inr (by simp [AV.val, Ce.val, ptrAt, hfa, std])⟩
      simp [execOp, hop, e2, ← e1, Instr.indexAt, asIntOf, run_underlying hu, hz, h0, hl, add_at']
    · cases h
  · rename_i i k kk n hx hy
    have e1 := ev_c hf hx
    have e2 := int_val (ev_c hf hy)
    split at h
    · rename_i ll hm h1
      simp only [Option.some.injEq, Prod.mk.injEq] at h
      obtain ⟨rfl, rfl⟩ := h
      obtain ⟨A, c, rs, hfa, hM⟩ := mat_rows (B := B) hm
      have hr := rowAt_some hfa e1
      obtain ⟨A', c', hv, _, _, h3⟩ := row_ok (hM w0 (fun d hd => hk.ok i d hd)) hr
      obtain ⟨h0, hl⟩ : 0 ≤ n ∧ n < ((ll.getD k []).length : Int) := ho.1
      obtain ⟨b, o', rfl, _⟩ := h3 (by omega)
      obtain ⟨E, hu, hz⟩ := oneTI_ok ht h1
      refine ⟨.pointer (some ⟨b, o' + n.toNat, none⟩), ?_, .inr ?_⟩
      · generalize ll.getD k [] = L at hv hl
        simp [execOp, hop, e2, hv, Instr.indexAt, asIntOf, run_underlying hu, hz, h0, hl, add_at']
      · simp only [AV.val, Ce.val, rptAt]
        have e1' : rowAt (faces hp) i k = some (a.eval x) := e1
        rw [e1', hv]
        simp [std]
    · cases h
  · cases h
theorem ldM_ok (ht : TabOk P tb) (hf : FrOk (faces hp) fr a.tmps) {T : TypeId} {x : Operand} {v : AV} {obs : List Prop} (hop : o.op = .load T x)
    (hr : ∀ i, ldIdx (ev fr x) = some i → ∀ c, hp[i]? = some c → ChOk B w (faces hp) c) (h : ldM std tb (hp.map Ch.ck) T (ev fr x) = some (v, obs)) (ho : All obs) : Yields P hp a w o v := by
  unfold ldM at h
  split at h
  · rename_i i k hx
    have e1 := ev_c hf hx
    split at h
    · rename_i ll hm h1
      simp only [Option.some.injEq, Prod.mk.injEq] at h
      obtain ⟨rfl, rfl⟩ := h
      obtain ⟨A, c, rs, hfa, hM⟩ := mat_rows (B := B) hm
      obtain ⟨g1, _, _, h4, _⟩ := hM w (hr i (by rw [hx]; rfl))
      have hkl : k < ll.length := ho.1
      obtain ⟨b, o', rfl, h5⟩ := h4 (by omega)
      simp only [Ce.val, ptrAt, hfa, Option.some.injEq] at e1
      have hrk : rs[k]? = some (rs[k]'(by omega)) := List.getElem?_eq_getElem (by omega)
      have hc := h5 k _ hrk
      refine ⟨rs[k]'(by omega), ?_, .inr ?_⟩
      · simp only [execOp, hop, ← e1, Instr.loadAt, Instr.sureAddr, Sem.run_bind, Sem.run_pure, Result.andThen_ok]
        simp [loadVar, notAgg_ok ht h1, hc]
      · simp only [AV.val, Ce.val, rowAt, hfa]
        exact hrk
    · cases h
  · rename_i i k j hx
    have e1 := ev_c hf hx
    split at h
    · rename_i ll hm h1
      simp only [Option.some.injEq, Prod.mk.injEq] at h
      obtain ⟨rfl, rfl⟩ := h
      obtain ⟨A, c, rs, hfa, hM⟩ := mat_rows (B := B) hm
      have hkl : j < (ll.getD k []).length := ho.1
      simp only [Ce.val, rptAt] at e1
      split at e1
      · rename_i ad n cc hro
        injection e1 with e1
        obtain ⟨A', c', hv, _, _, h3⟩ := row_ok (hM w (hr i (by rw [hx]; rfl))) (rowAt_some hfa hro)
        injection hv with q1 q2 q3
        obtain ⟨b, o', hA', h5⟩ := h3 (by omega)
        rw [hA'] at q1
        injection q1 with q1
        subst q1
        have hc := h5 j hkl 0 (.int .i64 ((ll.getD k []).getD j El.i1.zero)) rfl
        have e3 : o' + j * El.i1.sz + 0 = o' + j := by simp [El.sz]
        rw [e3] at hc
        refine ⟨.int .i64 ((ll.getD k []).getD j El.i1.zero), ?_, .inr rfl⟩
        simp only [execOp, hop, ← e1, Instr.loadAt, Instr.sureAddr, Sem.run_bind, Sem.run_pure, Result.andThen_ok]
        simp [loadVar, notAgg_ok ht h1, hc]
      · cases e1
    · cases h
  · cases h
theorem lenM_ok {w0 : World} (ht : TabOk P tb) (hf : FrOk (faces hp) fr a.tmps) (hk : HOk B hp w0) {T : TypeId} {x : Operand} {v : AV} {obs : List Prop} (hop : ∃ xs ts, o.op = .call ⟨.builtin .len, xs, ts⟩ ∧ xs.toList = [x] ∧ ts.toList = [T])
    (h : lenM std tb (hp.map Ch.ck) T (ev fr x) = some (v, obs)) : Yields P hp a w o v := by
  obtain ⟨xs, ts, hop, h1, h2⟩ := hop
  have h1' : xs = #[x] := by cases xs; simpa using h1
  have h2' : ts = #[T] := by cases ts; simpa using h2
  subst h1'; subst h2'
  unfold lenM at h
  split at h
  · rename_i i hx
    have e1 := ev_c hf hx
    split at h
    · rename_i ll hm h1
      simp only [Option.some.injEq, Prod.mk.injEq] at h
      obtain ⟨rfl, rfl⟩ := h
      obtain ⟨A, c, rs, hfa, hM⟩ := mat_rows (B := B) hm
      simp only [Ce.val, hfa, Option.some.injEq] at e1
      obtain ⟨E, hu, hz⟩ := oneTI_ok ht h1
      exact ⟨.int .i64 ll.length, by simp [execOp, hop, resolve, invoke, builtin, Builtin.len_, ← e1, run_underlying hu, goInt], .inr rfl⟩
    · cases h
  · rename_i i k hx
    have e1 := ev_c hf hx
    split at h
    · rename_i ll hm h1
      simp only [Option.some.injEq, Prod.mk.injEq] at h
      obtain ⟨rfl, rfl⟩ := h
      obtain ⟨A, c, rs, hfa, hM⟩ := mat_rows (B := B) hm
      obtain ⟨A', c', hv, _, _, h3⟩ := row_ok (hM w0 (fun d hd => hk.ok i d hd)) (rowAt_some hfa e1)
      obtain ⟨E, hu, hz⟩ := oneTI_ok ht h1
      exact ⟨.int .i64 (ll.getD k []).length, by simp [execOp, hop, resolve, invoke, builtin, Builtin.len_, hv, run_underlying hu, goInt], .inr rfl⟩
    · cases h
  · cases h
theorem orE_some {x y : Option (AV × List Prop)} {r : AV × List Prop} (h : orE x y = some r) : x = some r ∨ y = some r := by
  cases x with
  | none => exact .inr h
  | some z => exact .inl h

theorem one1_ok {fs : Faces} {c : Ce} {v : Value} (h : one1 c = true) (hv : c.val fs = some v) : v.oneCell' = true := by
  cases c with
  | int k n => simp only [Ce.val] at hv; injection hv with hv; subst hv; rfl
  | bool b => simp only [Ce.val] at hv; injection hv with hv; subst hv; rfl
  | ptr i o => simp only [Ce.val, ptrAt] at hv; split at hv <;> cases hv; rfl
  | ept i k f => simp only [Ce.val, eptAt] at hv; split at hv <;> cases hv; rfl
  | sl i => simp only [Ce.val] at hv; split at hv <;> cases hv; rfl
  | asl i n => simp only [Ce.val] at hv; split at hv <;> cases hv; rfl
  | fn f l => simp only [Ce.val] at hv; split at hv <;> cases hv; rfl
  | raw x => simp only [Ce.val] at hv; injection hv with hv; subst hv; exact h
  | mpt i k => simp only [Ce.val, ptrAt] at hv; split at hv <;> cases hv; rfl
  | rw i k => cases h
  | rpt i k j => simp only [Ce.val, rptAt] at hv; split at hv <;> cases hv; rfl
theorem allOne_ok {fs : Faces} : ∀ {l : List Ce} {vs : List Value}, allOne l = true → vals fs l = some vs → ∀ v ∈ vs, v.oneCell' = true := by
  intro l
  induction l with
  | nil => intro vs _ h; simp [vals, allv] at h; subst h; simp
  | cons c l ih =>
    intro vs h1 h2
    unfold allOne at h1
    cases hc : one1 c with
    | false => rw [hc] at h1; simp at h1
    | true =>
      rw [hc] at h1
      simp only [vals, List.map_cons] at h2
      cases hv : c.val fs with
      | none => rw [hv] at h2; simp [allv] at h2
      | some v =>
        rw [hv] at h2
        simp only [allv] at h2
        cases hl : allv (l.map (Ce.val fs)) with
        | none => rw [hl] at h2; simp at h2
        | some r =>
          rw [hl] at h2
          simp at h2
          subst h2
          intro u hu
          simp at hu
          rcases hu with rfl | hu
          · exact one1_ok hc hv
          · exact ih (by simpa using h1) hl u hu
theorem cells_one {v : Value} (h : v.oneCell' = true) : v.cells = #[v] := by
  cases v <;> first | rfl | simp [Value.oneCell'] at h
theorem parts1_ok (hf : FrOk (faces hp) fr a.tmps) {x : Operand} {l : List Ce} (h : parts1 (ev fr x) = some l) : vals (faces hp) l = some (a.eval x).cells.toList ∧ ∀ v ∈ (a.eval x).cells.toList, v.oneCell' = true := by
  unfold parts1 at h
  split at h
  · rename_i c hc
    cases h1 : one1 c with
    | false => rw [h1] at h; simp at h
    | true =>
      rw [h1] at h
      simp at h
      subst h
      have e1 := ev_c hf hc
      have e2 := one1_ok h1 e1
      rw [cells_one e2]
      exact ⟨by simp [vals, allv, e1], by simpa using e2⟩
  · rename_i l' hl
    cases h1 : allOne l' with
    | false => rw [h1] at h; simp at h
    | true =>
      rw [h1] at h
      simp at h
      subst h
      obtain ⟨vs, hv, e1⟩ := ev_agg hf hl
      rw [e1]
      exact ⟨by simpa [Value.cells] using hv, by simpa [Value.cells] using allOne_ok h1 hv⟩
  · cases h

theorem setC_eq : ∀ (l : List Ce) (n : Nat) (c : Ce), setC l n c = l.set n c := by
  intro l; induction l with
  | nil => intro n c; rfl
  | cons x l ih => intro n c; cases n <;> simp [setC, ih]
theorem vals_set {fs : Faces} {cs : List Ce} {vs : List Value} {c : Ce} {v : Value} (h : vals fs cs = some vs) (hc : c.val fs = some v) (n : Nat) : vals fs (setC cs n c) = some (vs.set n v) := by
  unfold vals at h ⊢
  rw [allv_iff] at h ⊢
  rw [setC_eq, List.map_set, h, hc, List.map_set]
def fillV (off : Nat) : List Value → List Value → List Value
  | [], vs => vs
  | x :: l, vs => fillV (off + 1) l (vs.set off x)
theorem fillV_len : ∀ (l : List Value) (off : Nat) (vs : List Value), (fillV off l vs).length = vs.length := by
  intro l; induction l with
  | nil => intro off vs; rfl
  | cons x l ih => intro off vs; simp [fillV, ih]
theorem vals_fill {fs : Faces} : ∀ {l cs : List Ce} {ls vs : List Value} (off : Nat), vals fs l = some ls → vals fs cs = some vs → vals fs (fillC off l cs) = some (fillV off ls vs) := by
  intro l
  induction l with
  | nil => intro cs ls vs off h h2; simp [vals, allv] at h; subst h; exact h2
  | cons c l ih =>
    intro cs ls vs off h h2
    simp only [vals, List.map_cons] at h
    cases hv : c.val fs with
    | none => rw [hv] at h; simp [allv] at h
    | some v =>
      rw [hv] at h
      simp only [allv] at h
      cases hl : allv (l.map (Ce.val fs)) with
      | none => rw [hl] at h; simp at h
      | some r =>
        rw [hl] at h
        simp at h
        subst h
        exact ih (off + 1) hl (vals_set h2 hv off)
theorem foldl_fill (off : Nat) : ∀ (l : List Value) (j : Nat) (cs : Array Value), ((l.zipIdx j).foldl (fun cs (x : Value × Nat) => cs.setIfInBounds (off + x.2) x.1) cs).toList = fillV (off + j) l cs.toList := by
  intro l
  induction l with
  | nil => intro j cs; rfl
  | cons x l ih =>
    intro j cs
    simp only [List.zipIdx_cons, List.foldl_cons, ih, fillV, Array.toList_setIfInBounds]
    rfl
theorem fillV_one : ∀ (l : List Value) (off : Nat) (vs : List Value), (∀ v ∈ l, v.oneCell' = true) → (∀ v ∈ vs, v.oneCell' = true) → ∀ v ∈ fillV off l vs, v.oneCell' = true := by
  intro l; induction l with
  | nil => intro off vs _ h; exact h
  | cons x l ih =>
    intro off vs h1 h2
    refine ih (off + 1) _ (fun v hv => h1 v (List.mem_cons_of_mem _ hv)) (fun v hv => ?_)
    rcases List.mem_or_eq_of_mem_set hv with h | h
    · exact h2 v h
    · rw [h]; exact h1 x List.mem_cons_self

theorem bld_ok (hf : FrOk (faces hp) fr a.tmps) {ti : TI} {pl : List (Nat × Nat)} (hpl : ti.flds.map (fun x => (x.1, x.2.1)) = pl) : ∀ {ps : List (Nat × Operand)} {cs : List Ce} {vs : Array Value} {l : List Ce}, bld fr ti ps cs = some l → vals (faces hp) cs = some vs.toList →
    ∃ r, Instr.fill (pl.toArray[·]?) vs (ps.map fun (i, x) => (i, a.eval x)) = some r ∧ vals (faces hp) l = some r.toList := by
  intro ps
  induction ps with
  | nil => intro cs vs l h hv; simp [bld] at h; subst h; exact ⟨vs, rfl, hv⟩
  | cons p ps ih =>
    intro cs vs l h hv
    obtain ⟨i, x⟩ := p
    unfold bld at h
    rw [nthF_eq] at h
    split at h
    · rename_i off sz ag lx hfl hpx
      cases hb : (Nat.beq lx.length sz && Nat.ble (off + sz) cs.length) with
      | false => rw [hb] at h; simp at h
      | true =>
        rw [hb] at h
        simp only [Bool.and_eq_true] at hb
        have b1 := Nat.eq_of_beq_eq_true hb.1
        have b2 := Nat.le_of_ble_eq_true hb.2
        obtain ⟨h1, h2⟩ := parts1_ok hf hpx
        have hpi : pl[i]? = some (off, sz) := by rw [← hpl, List.getElem?_map, hfl]; rfl
        have l1 := vals_len h1
        have l2 := vals_len hv
        simp only [Array.length_toList] at l1 l2
        have hfold := foldl_fill off (a.eval x).cells.toList 0 vs
        obtain ⟨cs', hcs'⟩ : ∃ cs', ((a.eval x).cells.zipIdx.foldl (fun cs (x : Value × Nat) => cs.setIfInBounds (off + x.2) x.1) vs) = cs' := ⟨_, rfl⟩
        have e3 : cs'.toList = fillV off (a.eval x).cells.toList vs.toList := by
          rw [← hcs', ← Array.foldl_toList, Array.toList_zipIdx]
          simpa using hfold
        have hn := vals_fill off h1 hv
        rw [← e3] at hn
        simp only [cond_true] at h
        obtain ⟨r, hr1, hr2⟩ := ih h hn
        refine ⟨r, ?_, hr2⟩
        simp only [List.map_cons, Instr.fill, List.getElem?_toArray, hpi]
        rw [if_neg (by simp; omega), hcs']
        simpa using hr1
    · cases h

theorem mapM_places {ag : Field → Bool} : ∀ (fs : List Field) (fl : List (Nat × Nat × Bool)), fs.map (fun f => (f.offset, (P.info? f.type).map (·.size), ag f)) = fl.map (fun x => (x.1, some x.2.1, x.2.2)) →
    fs.mapM (fun f => (P.info? f.type).map fun i => (f.offset, i.size)) = some (fl.map (fun x => (x.1, x.2.1))) := by
  intro fs
  induction fs with
  | nil => intro fl h; cases fl with
    | nil => rfl
    | cons x fl => simp at h
  | cons f fs ih =>
    intro fl h
    cases fl with
    | nil => simp at h
    | cons x fl =>
      simp only [List.map_cons, List.cons.injEq, Prod.mk.injEq] at h
      obtain ⟨⟨e1, e2, _⟩, h2⟩ := h
      cases hi : P.info? f.type with
      | none => rw [hi] at e2; simp at e2
      | some i =>
        rw [hi] at e2
        simp at e2
        simp [List.mapM_cons, hi, ih fl h2, e1, e2]
theorem bldop_ok (ht : TabOk P tb) (hf : FrOk (faces hp) fr a.tmps) {T : TypeId} {ps : Array (Nat × Operand)} {ti : TI} {l : List Ce} (hop : o.op = .build T ps) (hti : getTI tb T = some ti) (hne : ti.flds.isEmpty = false)
    (h : bld fr ti ps.toList ti.zero = some l) : Yields P hp a w o (.agg l) := by
  obtain ⟨i, z, hi, hz, hs, _, hcs, hv, h1⟩ := (ht _ _ hti).info
  obtain ⟨d, hd, h2, _⟩ := (ht _ _ hti).und
  cases d with
  | struct F =>
    simp only [descB, Bool.and_eq_true, decide_eq_true_eq] at h2
    obtain ⟨_, _, h3, _⟩ := h2
    have hpl : F.toList.mapM (fun f => (P.info? f.type).map fun i => (f.offset, i.size)) = some (ti.flds.map (fun x => (x.1, x.2.1))) := by
      exact mapM_places F.toList ti.flds h3
    obtain ⟨r, hr1, hr2⟩ := bld_ok (vs := z.cells) hf rfl h (hv _)
    have hb : P.built T (ps.map fun (i, x) => (i, a.eval x)).toList = some r := by
      simp only [Program.built, hi, hd, hz, hpl]
      simpa using hr1
    refine ⟨.agg r, by simp [execOp, hop, run_build w T _ r hb], .inr ?_⟩
    simp [AV.val, hr2]
  | _ => simp [descB, hne] at h2

theorem ptrAt_form {fs : Faces} {i j : Nat} {v : Value} (h : ptrAt fs i j = some v) : ∃ ad, v = .pointer (some ad) := by
  unfold ptrAt at h; split at h <;> cases h; exact ⟨_, rfl⟩
theorem eptAt_form {fs : Faces} {i j k : Nat} {v : Value} (h : eptAt fs i j k = some v) : ∃ ad, v = .pointer (some ad) := by
  unfold eptAt at h; split at h <;> cases h; exact ⟨_, rfl⟩
theorem nck_ok (hf : FrOk (faces hp) fr a.tmps) {x : Operand} {v : AV} {obs : List Prop} (hop : o.op = .nilCheck x) (h : nck (ev fr x) = some (v, obs)) : Yields P hp a w o v := by
  unfold nck at h
  split at h
  · rename_i i j hx
    simp only [Option.some.injEq, Prod.mk.injEq] at h
    obtain ⟨rfl, rfl⟩ := h
    have e1 := ev_c hf hx
    obtain ⟨ad, e2⟩ := ptrAt_form e1
    refine ⟨.pointer (some ad), by simp [execOp, hop, e2], .inr ?_⟩
    rw [← e2]; exact e1
  · rename_i i k j hx
    simp only [Option.some.injEq, Prod.mk.injEq] at h
    obtain ⟨rfl, rfl⟩ := h
    have e1 := ev_c hf hx
    obtain ⟨ad, e2⟩ := eptAt_form e1
    refine ⟨.pointer (some ad), by simp [execOp, hop, e2], .inr ?_⟩
    rw [← e2]; exact e1
  · rename_i f l hx
    simp only [Option.some.injEq, Prod.mk.injEq] at h
    obtain ⟨rfl, rfl⟩ := h
    have e1 := ev_c hf hx
    have e2 := e1
    simp only [Ce.val] at e2
    split at e2
    · rename_i l' _
      injection e2 with e2
      refine ⟨.func (.func f) #[] l'.toArray, by simp [execOp, hop, ← e2], .inr ?_⟩
      rw [e2]; exact e1
    · cases e2
  · cases h

theorem mv_ok (hf : FrOk (faces hp) fr a.tmps) {x : Operand} {v : AV} {obs : List Prop} (h : mv (ev fr x) = some (v, obs)) : v.rel (faces hp) (a.eval x) := by
  unfold mv at h
  split at h
  · cases h
  · simp only [Option.some.injEq, Prod.mk.injEq] at h
    obtain ⟨rfl, rfl⟩ := h
    exact ev_ok hf x
theorem pop_ok {w0 : World} (ht : TabOk P tb) (he : EqOk P tb) (hf : FrOk (faces hp) fr a.tmps) (hk : HOk B hp w0) (hr : ∀ T x i, o.op = .load T x → ldIdx (ev fr x) = some i → ∀ c, hp[i]? = some c → ChOk B w (faces hp) c)
    {v : AV} {obs : List Prop} (h : pop std tb fr (hp.map Ch.ck) o.op = some (v, obs)) (ho : All obs) : Yields P hp a w o v := by
  unfold pop at h
  split at h
  · rename_i x hop
    exact ⟨a.eval x, by simp [execOp, hop], mv_ok hf h⟩
  · rename_i x hop
    exact ⟨a.eval x, by simp [execOp, hop], mv_ok hf h⟩
  · rename_i op T x y U hop; exact bin_ok ht he hf hop h ho
  · rename_i op T x hop; exact un_ok hf hop h ho
  · rename_i S D x hop; exact cnv_ok ht hf hop h ho
  · rename_i T x hop
    rcases orE_some h with h | h
    · exact ld_ok ht hf hop (fun i hi => hr T x i hop hi) h ho
    · exact ldM_ok ht hf hop (fun i hi => hr T x i hop hi) h ho
  · rename_i T x k hop; exact fad_ok ht hf hop h
  · rename_i T x k hop; exact fld_ok ht hf hop h
  · rename_i T x y hop
    rcases orE_some h with h | h
    · exact iad_ok ht hf hk hop h ho
    · exact iadM_ok ht hf hk hop h ho
  · rename_i x k hop; exact xtr_ok hf hop h
  · rename_i f first cs hop
    split at h
    · rename_i l h1 h2
      simp only [Option.some.injEq, Prod.mk.injEq] at h
      obtain ⟨rfl, rfl⟩ := h
      exact mkf_ok hf hop h1 h2
    · cases h
  · rename_i T ps hop
    split at h
    · rename_i ti hti
      cases hb : (ti.agg && !ti.flds.isEmpty) with
      | false => rw [hb] at h; simp at h
      | true =>
        rw [hb] at h
        simp only [cond_true] at h
        simp only [Bool.and_eq_true, Bool.not_eq_true'] at hb
        split at h
        · rename_i l hl
          simp only [Option.some.injEq, Prod.mk.injEq] at h
          obtain ⟨rfl, rfl⟩ := h
          exact bldop_ok ht hf hop hti hb.2 hl
        · cases h
    · cases h
  · rename_i b xs ts hop
    unfold pcall at h
    split at h
    · split at h
      · rename_i x T h1 h2
        rcases orE_some h with h | h
        · exact len_ok ht hf hk ⟨xs, ts, hop, h1, h2⟩ h
        · exact lenM_ok ht hf hk ⟨xs, ts, hop, h1, h2⟩ h
      · cases h
    · split at h
      · rename_i x y h1; exact min_ok hf ⟨xs, ts, hop, h1⟩ h
      · cases h
    · split at h
      · rename_i x y h1; exact max_ok hf ⟨xs, ts, hop, h1⟩ h
      · rename_i x r _ h1; exact maxL_ok hf ⟨xs, ts, hop, h1⟩ h
      · cases h
    · cases h
  · rename_i x hop; exact nck_ok hf hop h
  · cases h

theorem mxL_nj {O : Ops} {fr : List AV} : ∀ {r : List Operand} {u v : AV}, u ≠ .junk → mxL O fr r u = some v → v ≠ .junk := by
  intro r
  induction r with
  | nil =>
    intro u v hu h
    simp only [mxL, Option.some.injEq] at h
    rw [← h]; exact hu
  | cons x r ih =>
    intro u v hu h
    unfold mxL at h
    split at h
    · rename_i k n k' m _
      by_cases hk : k = k'
      · simp only [hk, decide_true, cond_true] at h
        exact ih (by simp) h
      · simp [hk] at h
    · cases h
theorem pickL_nj {ag : Bool} {off sz : Nat} {cs : List Ce} {v : AV} (h : pickL ag off sz cs = some v) : v ≠ .junk := by
  unfold pickL at h
  cases ag
  · simp only at h; split at h <;> cases h; simp
  · simp only at h
    cases hb : Nat.ble (off + sz) cs.length <;> rw [hb] at h <;> simp at h
    rw [← h]; simp
theorem ldM_nj {ck : List Ck} {T : TypeId} {x v : AV} {obs : List Prop} (h : ldM std tb ck T x = some (v, obs)) : v ≠ .junk := by
  unfold ldM at h
  split at h
  · split at h <;> cases h; simp
  · split at h <;> cases h; simp
  · cases h
theorem iadM_nj {ck : List Ck} {T : TypeId} {x y v : AV} {obs : List Prop} (h : iadM std tb ck T x y = some (v, obs)) : v ≠ .junk := by
  unfold iadM at h
  split at h
  · split at h <;> cases h; simp
  · split at h <;> cases h; simp
  · cases h
theorem lenM_nj {ck : List Ck} {T : TypeId} {x v : AV} {obs : List Prop} (h : lenM std tb ck T x = some (v, obs)) : v ≠ .junk := by
  unfold lenM at h
  split at h
  · split at h <;> cases h; simp
  · split at h <;> cases h; simp
  · cases h
theorem pop_nj {op : Op} {v : AV} {obs : List Prop} {ck : List Ck} (h : pop std tb fr ck op = some (v, obs)) : v ≠ .junk := by
  have pk : ∀ {α : Type} {x : Option AV} {b : α} {c : List Prop}, (∀ v, x = some v → v ≠ .junk) → (match x with | some v => some (v, c) | none => none) = some (v, obs) → v ≠ .junk := by
    intro α x b c hx h
    cases x with
    | none => cases h
    | some y => simp only [Option.some.injEq, Prod.mk.injEq] at h; rw [← h.1]; exact hx y rfl
  unfold pop at h
  split at h
  · unfold mv at h; split at h
    · cases h
    · rename_i hne; simp only [Option.some.injEq, Prod.mk.injEq] at h; rw [← h.1]; exact hne
  · unfold mv at h; split at h
    · cases h
    · rename_i hne; simp only [Option.some.injEq, Prod.mk.injEq] at h; rw [← h.1]; exact hne
  · unfold bin at h
    split at h
    · rename_i k n k' m _ _
      by_cases hk : k = k'
      · simp only [hk, decide_true, cond_true] at h
        split at h
        all_goals first
          | (simp only [Option.some.injEq, Prod.mk.injEq] at h; rw [← h.1]; simp; done)
          | (split at h <;> cases h; simp; done)
          | (rw [cond_eq_ite] at h; split at h <;> (simp only [Option.some.injEq, Prod.mk.injEq] at h; rw [← h.1]; simp; done))
          | (cases hw : wide k' <;> rw [hw] at h <;> simp at h; rw [← h.1]; simp)
      · simp [hk] at h
    · split at h
      · rename_i ti _
        cases hb : ti.bool <;> rw [hb] at h <;> simp at h
        split at h <;> cases h <;> simp
      · cases h
    · split at h
      · rename_i ti _
        cases hb : (ti.eqs && (Nat.beq _ ti.size && Nat.beq _ ti.size)) <;> rw [hb] at h <;> simp at h
        split at h <;> cases h <;> simp
      · cases h
    · cases h
  · unfold un at h
    split at h
    · split at h <;> cases h; simp
    · split at h <;> cases h; simp
    · cases h
  · unfold cnv at h
    split at h
    · split at h
      · split at h <;> cases h; simp
      · cases h
    · cases h
  · rcases orE_some h with h | h
    rotate_left
    · exact ldM_nj h
    unfold ld at h
    split at h
    · split at h
      · split at h
        · split at h
          · rename_i v' hv'; simp only [Option.some.injEq, Prod.mk.injEq] at h; rw [← h.1]; exact pickL_nj hv'
          · cases h
        · split at h
          · rename_i v' hv'; simp only [Option.some.injEq, Prod.mk.injEq] at h; rw [← h.1]; exact pickL_nj hv'
          · cases h
        · cases h
      · cases h
    · split at h
      · split at h
        · split at h
          · rename_i v' hv'; simp only [Option.some.injEq, Prod.mk.injEq] at h; rw [← h.1]; exact pickL_nj hv'
          · cases h
        · cases h
      · cases h
    · cases h
  · unfold fad at h
    split at h
    · split at h
      · split at h <;> cases h; simp
      · cases h
    · split at h
      · split at h <;> cases h; simp
      · cases h
    · cases h
  · unfold fld at h
    split at h
    · split at h
      · split at h
        · split at h
          · rename_i v' hv'; simp only [Option.some.injEq, Prod.mk.injEq] at h; rw [← h.1]; exact pickL_nj hv'
          · cases h
        · cases h
      · cases h
    · cases h
  · rcases orE_some h with h | h
    rotate_left
    · exact iadM_nj h
    unfold iad at h
    split at h
    · split at h
      · split at h
        · split at h
          · rename_i te e l _ _
            cases hb : Nat.beq te.size e.sz <;> rw [hb] at h <;> simp at h
            rw [← h.1]; simp
          · cases h
        · cases h
      · cases h
    · split at h
      · split at h
        · split at h <;> cases h; simp
        · cases h
      · cases h
    · cases h
  · unfold xtr at h
    split at h
    · split at h <;> cases h <;> simp
    · cases h
  · split at h <;> cases h; simp
  · split at h
    · rename_i ti _
      cases hb : (ti.agg && !ti.flds.isEmpty) <;> rw [hb] at h <;> simp at h
      split at h <;> cases h; simp
    · cases h
  · unfold pcall at h
    split at h
    · split at h
      · rcases orE_some h with h | h
        rotate_left
        · exact lenM_nj h
        unfold len1 at h
        split at h
        · split at h
          · split at h <;> cases h; simp
          · cases h
        · split at h
          · split at h <;> cases h; simp
          · cases h
        · split at h
          · split at h <;> cases h; simp
          · cases h
        · cases h
      · cases h
    · split at h
      · unfold mm at h
        split at h
        · rename_i k n k' m _ _
          by_cases hk : k = k'
          · simp only [hk, decide_true, cond_true, Option.some.injEq, Prod.mk.injEq] at h; rw [← h.1]; simp
          · simp [hk] at h
        · cases h
      · cases h
    · split at h
      · unfold mm at h
        split at h
        · rename_i k n k' m _ _
          by_cases hk : k = k'
          · simp only [hk, decide_true, cond_true, Option.some.injEq, Prod.mk.injEq] at h; rw [← h.1]; simp
          · simp [hk] at h
        · cases h
      · rename_i x r _ _
        cases hx : ev fr x with
        | c e =>
          cases e with
          | int k n =>
            rw [hx] at h
            simp only [isIntA, cond_true] at h
            split at h
            · rename_i v' hv'
              simp only [Option.some.injEq, Prod.mk.injEq] at h
              obtain ⟨rfl, rfl⟩ := h
              exact mxL_nj (by simp) hv'
            · cases h
          | _ => rw [hx] at h; cases h
        | _ => rw [hx] at h; cases h
      · cases h
    · cases h
  · unfold nck at h
    split at h <;> cases h <;> simp
  · cases h
end
end Go.Proofs.YtmnhfaaaaejpaaaGreat
