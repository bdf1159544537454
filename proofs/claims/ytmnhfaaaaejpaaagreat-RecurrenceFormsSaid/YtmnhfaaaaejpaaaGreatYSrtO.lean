/-
  slices.Compact of ordinals: what it returns.
  The kit's contract of slices.SortFunc of ordinals, laid over this program (printed by laysort.py out of the kit's own tool).
  The sort and the compaction of ordinals: the comparison.
-/
import Derived.Test.YtmnhfaaaaejpaaaGreatBase
import Derived.Test.YtmnhfaaaaejpaaaGreatProg
import Derived.Deep.LoopGhost
import Derived.Deep.Draws
import Derived.Lib.SliceRun
import Derived.Lib.SlicesCompact
import Derived.Laws.CopyOwn
import Derived.Shelf.SlSortCmp.WholeK
import Derived.Test.YtmnhfaaaaejpaaaGreatYOrM
import Derived.Test.YtmnhfaaaaejpaaaGreatPi
import Derived.Test.YtmnhfaaaaejpaaaGreatSrt
import Derived.Test.YtmnhfaaaaejpaaaGreatTabEq
namespace Go.Proofs.YtmnhfaaaaejpaaaGreat
open Go.RowKit Go.BigFrame Go.Lib

theorem eql_ord (a b c d : Int) (w : World) :
    (binOp .eql 36 (.agg #[.int .i64 a, .int .i64 b]) (.agg #[.int .i64 c, .int .i64 d])).run Tryz.prog w = .ok (.bool (a == c && b == d)) w := by
  by_cases h1 : a = c <;> by_cases h2 : b = d <;> simp [go_sem, h1, h2]
theorem neq_ord (a b c d : Int) (w : World) :
    (binOp .neq 36 (.agg #[.int .i64 a, .int .i64 b]) (.agg #[.int .i64 c, .int .i64 d])).run Tryz.prog w = .ok (.bool !(a == c && b == d)) w := by
  by_cases h1 : a = c <;> by_cases h2 : b = d <;> simp [go_sem, h1, h2]
attribute [local go_sem ↓] eql_ord neq_ord
abbrev OrP : Type := Int × Int
/-- a block that holds ordinals from its beginning on; all else is as it was -/
structure OrdW (w : World) (g n N : Nat) (T : TypeId) (dk : Array OrP) (wr : World) : Prop where
  os : wr.os = w.os
  tape : wr.tape = w.tape
  out : wr.output = w.output
  size : wr.heap.size = w.heap.size
  other : ∀ k, k ≠ g → wr.heap[k]? = w.heap[k]?
  blk : ∃ cr : Array Value, wr.heap[g]? = some (.cells cr T (0, 0)) ∧ cr.size = N ∧ 2 * n ≤ N ∧ ∀ j, j < n → cr[j * 2]? = some (.int .i64 dk[j]!.1) ∧ cr[j * 2 + 1]? = some (.int .i64 dk[j]!.2)
theorem OrdW.cells {w : World} {g n N : Nat} {T : TypeId} {dk : Array OrP} {wr : World} (h : OrdW w g n N T dk wr) : (∀ j, j < n → wr.cell? ⟨g, j * 2, none⟩ = some (.int .i64 dk[j]!.1) ∧ wr.cell? ⟨g, j * 2 + 1, none⟩ = some (.int .i64 dk[j]!.2)) ∧ ∀ i, wr.frozen? ⟨g, i, none⟩ = false := by
  obtain ⟨cr, h1, h2, h3, h5⟩ := h.blk
  exact ⟨fun j hj => ⟨by simp only [World.cell?, h1]; simpa using (h5 j hj).1, by simp only [World.cell?, h1]; simpa using (h5 j hj).2⟩, fun i => by simp [World.frozen?, h1]⟩
theorem OrdW.drewN {w : World} {g n N : Nat} {T : TypeId} {dk : Array OrP} {wr : World} (h : OrdW w g n N T dk wr) (q : Nat) : OrdW w g n N T dk (wr.drewN q) :=
  ⟨h.os, h.tape, h.out, h.size, h.other, h.blk⟩
theorem setCell_blk {w : World} {g o : Nat} {v : Value} {cr : Array Value} {T : TypeId} (h : w.heap[g]? = some (.cells cr T (0, 0))) : (w.setCell ⟨g, o, none⟩ v).heap[g]? = some (.cells (cr.setIfInBounds o v) T (0, 0)) := by
  simp [World.setCell, Array.getElem?_modify, h]
theorem setCell_oth {w : World} {g o k : Nat} {v : Value} (h : k ≠ g) : (w.setCell ⟨g, o, none⟩ v).heap[k]? = w.heap[k]? := by
  simp [World.setCell, Array.getElem?_modify, Ne.symm h]
theorem OrdW.set {w : World} {g n N : Nat} {T : TypeId} {dk : Array OrP} {wr : World} (h : OrdW w g n N T dk wr) {k : Nat} (hk : k < n) (hs : dk.size = n) (x y : Int) :
    OrdW w g n N T (dk.setIfInBounds k (x, y)) ((wr.setCell ⟨g, k * 2, none⟩ (.int .i64 x)).setCell ⟨g, k * 2 + 1, none⟩ (.int .i64 y)) := by
  obtain ⟨cr, h1, h2, h3, h5⟩ := h.blk
  refine ⟨h.os, h.tape, h.out, by simp [World.setCell, h.size], fun j hj => by rw [setCell_oth hj, setCell_oth hj, h.other j hj], _, setCell_blk (setCell_blk h1), by simp [h2], h3, fun j hj => ?_⟩
  by_cases e : j = k
  · subst e
    rw [Sort.getElem!_set_same _ _ _ (by omega)]
    constructor
    · rw [Array.getElem?_setIfInBounds, if_neg (by omega), Array.getElem?_setIfInBounds, if_pos rfl, if_pos (by omega)]
    · rw [Array.getElem?_setIfInBounds, if_pos rfl, if_pos (by simp; omega)]
  · rw [Sort.getElem!_set_other _ _ _ _ e]
    have := h5 j hj
    constructor
    · rw [Array.getElem?_setIfInBounds, if_neg (by omega), Array.getElem?_setIfInBounds, if_neg (by omega)]
      exact this.1
    · rw [Array.getElem?_setIfInBounds, if_neg (by omega), Array.getElem?_setIfInBounds, if_neg (by omega)]
      exact this.2
theorem OrdW.low {w : World} {g n m N : Nat} {T : TypeId} {dk dk' : Array OrP} {wr : World} (h : OrdW w g n N T dk wr) (hm : m ≤ n) (he : ∀ j, j < m → dk'[j]! = dk[j]!) : OrdW w g m N T dk' wr := by
  obtain ⟨cr, h1, h2, h3, h5⟩ := h.blk
  exact ⟨h.os, h.tape, h.out, h.size, h.other, cr, h1, h2, by omega, fun j hj => by rw [he j hj]; exact h5 j (by omega)⟩
theorem OrdW.behind {w : World} {g n N : Nat} {T : TypeId} {dk : Array OrP} : ∀ (vs : List Value) (o : Nat) {wr : World}, OrdW w g n N T dk wr → 2 * n ≤ o → OrdW w g n N T dk (wr.setCells g o vs) := by
  intro vs
  induction vs with
  | nil => intro o wr h _; exact h
  | cons v vs ih =>
    intro o wr h ho
    refine ih (o + 1) ?_ (by omega)
    obtain ⟨cr, h1, h2, h3, h5⟩ := h.blk
    refine ⟨h.os, h.tape, h.out, by simp [World.setCell, h.size], fun j hj => by rw [setCell_oth hj, h.other j hj], _, setCell_blk h1, by simp [h2], h3, fun j hj => ?_⟩
    have := h5 j hj
    constructor
    · rw [Array.getElem?_setIfInBounds, if_neg (by omega)]; exact this.1
    · rw [Array.getElem?_setIfInBounds, if_neg (by omega)]; exact this.2
theorem run_clear2 {P : Program} (w : World) (t e ty : TypeId) (z : Value) (ht : P.underlying t = some (.slice e)) (hv : ∀ w, (zeroValue e).run P w = .ok z w) (hz : z.cells = #[.int .i64 0, .int .i64 0]) (b o n c : Nat) (hn : 0 < n)
    (hc : ∀ j, j < n * 2 → (w.cell? ⟨b, o + j, none⟩).isSome = true) (hf : ∀ j, j < n * 2 → w.frozen? ⟨b, o + j, none⟩ = false) :
    (Builtin.clear_ #[t] ty #[.slice (some ⟨b, o, none⟩) n c]).run P w = .ok (.tuple #[]) (w.setCells b o (List.replicate (n * 2) (.int .i64 0))) := by
  have hzc : (Builtin.zeroCells z.cells n).toList = List.replicate (n * 2) (Value.int .i64 0) := by
    rw [hz]
    simp [Builtin.zeroCells]
    apply List.ext_getElem
    · simp
    · intro i h1 h2
      simp
      rcases (show i % 2 = 0 ∨ i % 2 = 1 by omega) with h | h <;> rw [h] <;> rfl
  have hst := run_storeCells_cells (P := P) b o (List.replicate (n * 2) (Value.int .i64 0)) 0 w (by simpa using hc) (by simpa using hf) (by intro v hv'; rw [List.eq_of_mem_replicate hv']; rfl)
  simp only [Nat.add_zero] at hst
  obtain ⟨m, rfl⟩ : ∃ m, n = m + 1 := ⟨n - 1, by omega⟩
  simp [Builtin.clear_, run_underlying ht, hv, hzc, hst]
set_option maxRecDepth 20000 in
set_option maxHeartbeats 4000000 in
theorem compact_ord (T : TypeId) (g cap N : Nat) (d : Array OrP) (w : World) (hW : OrdW w g d.size N T d w) (hcap : d.size ≤ cap) (hmax : cap ≤ maxLen) :
    Calls Tryz.prog 20 #[.slice (some ⟨g, 0, none⟩) d.size cap] w fun e w' => e = .returned (.slice (some ⟨g, 0, none⟩) (compactUpTo d d.size).length cap) ∧ OrdW w g (compactUpTo d d.size).length N T (compactUpTo d d.size).toArray w' := by
  have hmax : cap ≤ 9223372036854775807 := hmax
  have same : ∀ wr, OrdW w g d.size N T d wr → (∀ j, j < d.size → keeps d j = true) → (compactUpTo d d.size).length = d.size ∧ OrdW w g (compactUpTo d d.size).length N T (compactUpTo d d.size).toArray wr := by
    intro wr hwr hall
    have e : compactUpTo d d.size = d.toList := by rw [compactUpTo_all d _ hall, range_map_get]
    rw [e]
    refine ⟨by simp, ?_⟩
    simp only [Array.length_toList, Array.toArray_toList]
    exact hwr
  have HS := Lib.hid same
  have HW := Lib.hid hW
  clear same hW
  by_cases h2 : d.size < 2
  · have d2 : decide (((d.size : Nat) : Int) < 2) = true := by simp; omega
    go_enter Tryz.func20, Tryz.ntmps20
    go_wp2
    go_ret
    obtain ⟨e1, e2⟩ := HS.out _ HW.out (fun j hj => keeps_lt_one d j (by omega))
    exact ⟨by rw [e1]; rfl, e2⟩
  · have d2 : decide (((d.size : Nat) : Int) < 2) = false := by simp; omega
    go_enter Tryz.func20, Tryz.ntmps20
    go_wp2
    go_loopg [3] d.size (fun g' s3 wr => ∃ k q : Nat, 1 ≤ k ∧ k ≤ d.size ∧ d.size - k ≤ g' ∧ s3 = .int .i64 k ∧ wr = w.drewN q ∧ ∀ j, j < k → keeps d j = true)
    case atStart => exact ⟨1, 0, Nat.le_refl _, by omega, by omega, rfl, rfl, keeps_lt_one d⟩
    case round =>
      obtain ⟨k, q, hk1, hk, hg, rfl, rfl, hall⟩ := hrel
      have A := Lib.hid hall
      clear hall
      by_cases hlt : k < d.size
      · obtain ⟨hc, hf⟩ := HW.out.cells
        obtain ⟨c1, c2⟩ := hc k hlt
        obtain ⟨c3, c4⟩ := hc (k - 1) (by omega)
        clear hc
        generalize hx : d[k]! = x at c1 c2
        generalize hy : d[k - 1]! = y at c3 c4
        obtain ⟨x1, x2⟩ := x
        obtain ⟨y1, y2⟩ := y
        have B := Lib.hid (show d[k]! = (x1, x2) ∧ d[k - 1]! = (y1, y2) from ⟨hx, hy⟩)
        clear hx hy
        cases he : (x1 == y1 && x2 == y2) with
        | true =>
          have hxy : (x1, x2) = (y1, y2) := by
            simp only [Bool.and_eq_true, beq_iff_eq] at he
            rw [he.1, he.2]
          go_wp2
          go_quiet (fail)
          go_wp2
          clear c1 c2 c3 c4 hf
          go_loopg [3, 5] d.size (fun g' s3 s5 wr => ∃ (kk k2 : Nat) (dk : Array OrP), s3 = .int .i64 kk ∧ s5 = .int .i64 k2 ∧ 1 ≤ k2 ∧ k + k2 ≤ d.size ∧ d.size - (k + k2) ≤ g' ∧ OrdW w g d.size N T dk wr ∧ CompInv d (k + k2) kk dk)
          case atStart => exact ⟨k, 1, d, rfl, rfl, Nat.le_refl _, by omega, by omega, HW.out.drewN _, CompInv.start A.out (keeps_neg (by omega) (by rw [B.out.1, B.out.2]; exact hxy))⟩
          case round =>
            obtain ⟨kk, k2, dk, rfl, rfl, h1, hle, hg2, hwr, hI⟩ := hrel
            have hkk := hI.lt
            have hds := hI.size
            have W2 := Lib.hid hwr
            have I2 := Lib.hid hI
            by_cases hlt2 : k + k2 < d.size
            · obtain ⟨hc, hf⟩ := hwr.cells
              obtain ⟨c1, c2⟩ := hc (k + k2) hlt2
              obtain ⟨c3, c4⟩ := hc (k + k2 - 1) (by omega)
              obtain ⟨c5, c6⟩ := hc kk (by omega)
              rw [hI.high (k + k2) (by omega), show (k + k2) * 2 = k * 2 + k2 * 2 by omega] at c1 c2
              rw [hI.high (k + k2 - 1) (by omega), show (k + k2 - 1) * 2 = k * 2 + (k2 - 1) * 2 by omega] at c3 c4
              clear hc hI hwr
              generalize hu : d[k + k2]! = u at c1 c2
              generalize hv : d[k + k2 - 1]! = v at c3 c4
              generalize dk[kk]! = old at c5 c6
              obtain ⟨u1, u2⟩ := u
              obtain ⟨v1, v2⟩ := v
              have C := Lib.hid (show d[k + k2]! = (u1, u2) ∧ d[k + k2 - 1]! = (v1, v2) from ⟨hu, hv⟩)
              clear hu hv
              cases hq : (u1 == v1 && u2 == v2) with
              | true =>
                have huv : (u1, u2) = (v1, v2) := by
                  simp only [Bool.and_eq_true, beq_iff_eq] at hq
                  rw [hq.1, hq.2]
                have hq' : (!(u1 == v1 && u2 == v2)) = false := by rw [hq]; rfl
                go_wp2
                go_quiet (fail)
                go_wp2
                go_roundg (d.size - (k + (k2 + 1)))
                case measure => omega
                case rel => exact ⟨kk, k2 + 1, dk, rfl, by go_num, by omega, by omega, Nat.le_refl _, W2.out.drewN _, I2.out.skip (keeps_neg (by omega) (by rw [C.out.1, C.out.2]; exact huv))⟩
              | false =>
                have huv : (u1, u2) ≠ (v1, v2) := by
                  intro e
                  injection e with e1 e2
                  rw [e1, e2] at hq
                  simp at hq
                have hq' : (!(u1 == v1 && u2 == v2)) = true := by rw [hq]; rfl
                go_wp2
                go_quiet (fail)
                go_wp2
                go_roundg (d.size - (k + (k2 + 1)))
                case measure => omega
                case rel => exact ⟨kk + 1, k2 + 1, _, by go_num, by go_num, by omega, by omega, Nat.le_refl _, (W2.out.drewN _).set (by omega) hds u1 u2, by have := I2.out.keep hlt2 (keeps_pos (by rw [C.out.1, C.out.2]; exact huv)); rwa [C.out.1] at this⟩
            · have hend : k + k2 = d.size := by omega
              obtain ⟨hc, hf⟩ := hwr.cells
              have hcl : ∀ ty, (Builtin.clear_ #[23] ty #[.slice (some ⟨g, kk * 2, none⟩) (d.size - kk) (cap - kk)]).run Tryz.prog wr = .ok (.tuple #[]) (wr.setCells g (kk * 2) (List.replicate ((d.size - kk) * 2) (.int .i64 0))) :=
                fun ty => run_clear2 wr _ _ ty (.agg #[.int .i64 0, .int .i64 0]) Tryz.underlying23 (fun w => by kernel_rfl) rfl g (kk * 2) _ _ (by omega)
                  (fun j hj => by
                    have h1 := hc ((kk * 2 + j) / 2) (by omega)
                    rcases (show (kk * 2 + j) % 2 = 0 ∨ (kk * 2 + j) % 2 = 1 by omega) with h | h
                    · rw [show kk * 2 + j = (kk * 2 + j) / 2 * 2 by omega, h1.1]; rfl
                    · rw [show kk * 2 + j = (kk * 2 + j) / 2 * 2 + 1 by omega, h1.2]; rfl) (fun j _ => hf _)
              clear hc hf hI hwr
              go_wp2
              go_ret
              have hI := I2.out
              rw [hend] at hI
              refine ⟨by rw [hI.len]; rfl, ?_⟩
              refine OrdW.behind _ _ (W2.out.low (by rw [hI.len]; omega) fun j hj => ?_) (by rw [hI.len]; omega)
              rw [hI.len] at hj
              have := hI.low j hj
              rw [getElem!_pos _ j (by simp [hI.len]; omega)]
              simp only [List.getElem_toArray]
              exact (List.getElem?_eq_some_iff.1 this).2
        | false =>
          have hxy : (x1, x2) ≠ (y1, y2) := by
            intro e
            injection e with e1 e2
            rw [e1, e2] at he
            simp at he
          go_wp2
          go_quiet (fail)
          go_wp2
          go_roundg (d.size - (k + 1))
          case measure => omega
          case rel =>
            refine ⟨k + 1, _, by omega, by omega, Nat.le_refl _, by go_num, rfl, fun j hj => ?_⟩
            by_cases e : j = k
            · subst e
              exact keeps_pos (by rw [B.out.1, B.out.2]; exact hxy)
            · exact A.out j (by omega)
      · have : k = d.size := by omega
        subst this
        go_wp2
        go_ret
        obtain ⟨e1, e2⟩ := HS.out _ (HW.out.drewN q) A.out
        exact ⟨by rw [e1]; rfl, e2⟩
theorem compact_ord0 (A : Option Addr) (cap : Nat) (w : World) :
    Calls Tryz.prog 20 #[.slice A 0 cap] w fun e w' => e = .returned (.slice A 0 cap) ∧ w' = w := by
  go_enter Tryz.func20, Tryz.ntmps20
  go_wp2
  go_ret
  exact ⟨rfl, rfl⟩
end Go.Proofs.YtmnhfaaaaejpaaaGreat
namespace Go.Proofs.YtmnhfaaaaejpaaaGreat
open Go.Shelf
def layOr_ren : Go.Shelf.Ren := ⟨fun | 6 => 16 | 15 => 49 | 14 => 48 | 28 => 72 | 29 => 73 | 20 => 64 | 21 => 65 | 22 => 66 | 23 => 67 | 24 => 68 | 25 => 69 | 26 => 70 | 27 => 71 | 46 => 98 | 47 => 99 | 48 => 100 | 49 => 101 | 50 => 102 | 57 => 108 | n => n, fun | 22 => 23 | 24 => 36 | 25 => 44 | 3 => 3 | 39 => 69 | 0 => 0 | 53 => 93 | 55 => 95 | 4 => 4 | 46 => 86 | 45 => 85 | 50 => 90 | 5 => 5 | 9 => 9 | 66 => 105 | 70 => 109 | 76 => 115 | 77 => 63 | n => n, fun | n => n⟩
theorem layOr : Go.Proofs.SlLaysF0.n6 Tryz.prog layOr_ren := {
  mixed := by kernel_rfl
  f6 := ⟨Tryz.f16.name, by decide, Tryz.func16.trans (congrArg some (by kernel_rfl))⟩
  f14 := ⟨Tryz.f48.name, by decide, Tryz.func48.trans (congrArg some (by kernel_rfl))⟩
  f15 := Tryz.func49.trans (congrArg some (by kernel_rfl))
  f20 := ⟨Tryz.f64.name, by decide, Tryz.func64.trans (congrArg some (by kernel_rfl))⟩
  f21 := ⟨Tryz.f65.name, by decide, Tryz.func65.trans (congrArg some (by kernel_rfl))⟩
  f22 := ⟨Tryz.f66.name, by decide, Tryz.func66.trans (congrArg some (by kernel_rfl))⟩
  f23 := ⟨Tryz.f67.name, by decide, Tryz.func67.trans (congrArg some (by kernel_rfl))⟩
  f24 := ⟨Tryz.f68.name, by decide, Tryz.func68.trans (congrArg some (by kernel_rfl))⟩
  f25 := ⟨Tryz.f69.name, by decide, Tryz.func69.trans (congrArg some (by kernel_rfl))⟩
  f26 := ⟨Tryz.f70.name, by decide, Tryz.func70.trans (congrArg some (by kernel_rfl))⟩
  f27 := ⟨Tryz.f71.name, by decide, Tryz.func71.trans (congrArg some (by kernel_rfl))⟩
  f28 := Tryz.func72.trans (congrArg some (by kernel_rfl))
  f29 := Tryz.func73.trans (congrArg some (by kernel_rfl))
  f46 := ⟨Tryz.f98.name, by decide, Tryz.func98.trans (congrArg some (by kernel_rfl))⟩
  f47 := Tryz.func99.trans (congrArg some (by kernel_rfl))
  f48 := Tryz.func100.trans (congrArg some (by kernel_rfl))
  f49 := ⟨Tryz.f101.name, by decide, Tryz.func101.trans (congrArg some (by kernel_rfl))⟩
  f50 := ⟨Tryz.f102.name, by decide, Tryz.func102.trans (congrArg some (by kernel_rfl))⟩
  f57 := ⟨Tryz.f108.name, by decide, Tryz.func108.trans (congrArg some (by kernel_rfl))⟩
  t0 := Tryz.underlying0
  a0 := Tryz.isAgg0
  z0 := Tryz.sizeOf0
  v0 := Tryz.zeroValue0
  t3 := Tryz.underlying3
  a3 := Tryz.isAgg3
  z3 := Tryz.sizeOf3
  v3 := Tryz.zeroValue3
  t4 := Tryz.underlying4
  a4 := Tryz.isAgg4
  z4 := Tryz.sizeOf4
  v4 := Tryz.zeroValue4
  t5 := Tryz.underlying5
  a5 := Tryz.isAgg5
  z5 := Tryz.sizeOf5
  v5 := Tryz.zeroValue5
  t9 := Tryz.underlying9
  a9 := Tryz.isAgg9
  z9 := Tryz.sizeOf9
  v9 := Tryz.zeroValue9
  t22 := Tryz.underlying23
  a22 := Tryz.isAgg23
  z22 := Tryz.sizeOf23
  v22 := Tryz.zeroValue23
  t25 := Tryz.underlying44
  a25 := Tryz.isAgg44
  z25 := Tryz.sizeOf44
  v25 := Tryz.zeroValue44
  t39 := Tryz.underlying69
  a39 := Tryz.isAgg69
  z39 := Tryz.sizeOf69
  v39 := Tryz.zeroValue69
  t45 := Tryz.underlying85
  a45 := Tryz.isAgg85
  z45 := Tryz.sizeOf85
  v45 := Tryz.zeroValue85
  t46 := Tryz.underlying86
  a46 := Tryz.isAgg86
  z46 := Tryz.sizeOf86
  v46 := Tryz.zeroValue86
  t50 := Tryz.underlying90
  a50 := Tryz.isAgg90
  z50 := Tryz.sizeOf90
  v50 := Tryz.zeroValue90
  t53 := Tryz.underlying93
  a53 := Tryz.isAgg93
  z53 := Tryz.sizeOf93
  v53 := Tryz.zeroValue93
  t55 := Tryz.underlying95
  a55 := Tryz.isAgg95
  z55 := Tryz.sizeOf95
  v55 := Tryz.zeroValue95
  t66 := Tryz.underlying105
  a66 := Tryz.isAgg105
  z66 := Tryz.sizeOf105
  v66 := Tryz.zeroValue105
  t70 := Tryz.underlying109
  a70 := Tryz.isAgg109
  z70 := Tryz.sizeOf109
  v70 := Tryz.zeroValue109
  t76 := Tryz.underlying115
  a76 := Tryz.isAgg115
  z76 := Tryz.sizeOf115
  v76 := Tryz.zeroValue115
  t77 := Tryz.underlying63
  a77 := Tryz.isAgg63
  z77 := Tryz.sizeOf63
  v77 := Tryz.zeroValue63 }

end Go.Proofs.YtmnhfaaaaejpaaaGreat
namespace Go.Proofs.YtmnhfaaaaejpaaaGreat
open Go.RowKit Go.BigFrame

def cmpI (a b : Int) : Int := if a < b then -1 else if b < a then 1 else 0
theorem cmpI_any (a b : Int) (w : World) : Calls Tryz.prog 19 #[.int .i64 a, .int .i64 b] w fun e w' => e = .returned (.int .i64 (cmpI a b)) ∧ w = w' := by
  have nan : ∀ (x : Int) (w : World), Calls Tryz.prog 50 #[.int .i64 x] w fun e w' => e = .returned (.bool false) ∧ w = w' := fun x w => by
    have h : (x != x) = false := by simp
    go_enter Tryz.func50, Tryz.ntmps50
    go_wp2
    go_ret
    exact ⟨by first | rfl | simp, rfl⟩
  have hc : cmpI a b = if a < b then -1 else if b < a then 1 else 0 := rfl
  rcases Int.lt_trichotomy a b with h | h | h
  · have d1 : decide (a < b) = true := decide_eq_true h
    have hv : cmpI a b = -1 := by rw [hc, if_pos h]
    have HV := Lib.hid hv
    clear hc hv
    go_enter Tryz.func19, Tryz.ntmps19
    go_wp2_with (go_at_call 50; refine (nan _ _).mono ?_; rintro e w' ⟨rfl, rfl⟩)
    go_ret
    exact ⟨ret_int HV.out.symm, rfl⟩
  · have d1 : decide (a < b) = false := decide_eq_false (by omega)
    have d2 : decide (b < a) = false := decide_eq_false (by omega)
    have hv : cmpI a b = 0 := by rw [hc, if_neg (by omega), if_neg (by omega)]
    have HV := Lib.hid hv
    clear hc hv h
    go_enter Tryz.func19, Tryz.ntmps19
    go_wp2_with (go_at_call 50; refine (nan _ _).mono ?_; rintro e w' ⟨rfl, rfl⟩)
    go_ret
    exact ⟨ret_int HV.out.symm, rfl⟩
  · have d1 : decide (a < b) = false := decide_eq_false (by omega)
    have d2 : decide (b < a) = true := decide_eq_true h
    have hv : cmpI a b = 1 := by rw [hc, if_neg (by omega), if_pos h]
    have HV := Lib.hid hv
    clear hc hv
    go_enter Tryz.func19, Tryz.ntmps19
    go_wp2_with (go_at_call 50; refine (nan _ _).mono ?_; rintro e w' ⟨rfl, rfl⟩)
    go_ret
    exact ⟨ret_int HV.out.symm, rfl⟩
theorem cmpOr_any (g : Nat) (a b : Int) (w : World) (h1 : w.cell? ⟨g, 0, none⟩ = some (.int .i64 a)) (h2 : w.cell? ⟨g, 1, none⟩ = some (.int .i64 b)) :
    Calls Tryz.prog 18 #[.slice (some ⟨g, 0, none⟩) 2 2] w fun e w' => e = .returned (.int .i64 (if a ≠ 0 then a else b)) ∧ w = w' := by
  have hr : (a ≠ 0 → (if a ≠ 0 then a else b) = a) ∧ (a = 0 → (if a ≠ 0 then a else b) = b) := ⟨fun h => if_pos h, fun h => if_neg (fun g => g h)⟩
  generalize (if a ≠ 0 then a else b) = r at hr ⊢
  have HR := Lib.hid hr
  clear hr
  go_enter Tryz.func18, Tryz.ntmps18
  go_wp2
  go_loopw [8] (fun x wr => ∃ i : Nat, i ≤ 2 ∧ x = .int .i64 i ∧ wr = w ∧ (1 ≤ i → a = 0) ∧ (2 ≤ i → b = 0)) (fun x _ => 2 - (intOf x).toNat)
  case atStart => exact ⟨0, by omega, rfl, rfl, fun h => by omega, fun h => by omega⟩
  case round =>
    obtain ⟨i, hi, rfl, rfl, ha, hb⟩ := hrel
    have HA := Lib.hid ha
    have HB := Lib.hid hb
    clear ha hb
    rcases (show i = 0 ∨ i = 1 ∨ i = 2 by omega) with rfl | rfl | rfl
    · by_cases h : a = 0
      · have n1 : (a != 0) = false := by simp [h]
        have hh := Lib.hid h
        clear h
        go_wp2
        go_roundw
        case rel => exact ⟨1, by omega, by go_num, trivial, fun _ => hh.out, fun h => by omega⟩
        case measure => simp [intOf]
      · have n1 : (a != 0) = true := by simp [h]
        have hh := Lib.hid h
        clear h
        go_wp2
        go_ret
        exact ⟨ret_int (HR.out.1 hh.out).symm, rfl⟩
    · by_cases h : b = 0
      · have n1 : (b != 0) = false := by simp [h]
        have hh := Lib.hid h
        clear h
        go_wp2
        go_roundw
        case rel => exact ⟨2, by omega, by go_num, trivial, fun _ => HA.out (by omega), fun _ => hh.out⟩
        case measure => simp [intOf]
      · have n1 : (b != 0) = true := by simp [h]
        have hh := Lib.hid h
        clear h
        go_wp2
        go_ret
        exact ⟨ret_int (HR.out.2 (HA.out (by omega))).symm, rfl⟩
    · go_wp2
      go_ret
      exact ⟨ret_int (by rw [HR.out.2 (HA.out (by omega)), HB.out (by omega)]), rfl⟩
def encO (x : Int × Int) : List Value := [.int .i64 x.1, .int .i64 x.2]
theorem cf_or (x y : Int × Int) : (if cmpI x.2 y.2 ≠ 0 then cmpI x.2 y.2 else cmpI x.1 y.1) = cfOr x y := by
  unfold cmpI cfOr
  by_cases h1 : x.2 < y.2
  · simp [h1]
  · by_cases h2 : y.2 < x.2
    · simp [h1, h2]
    · simp [h1, h2]
/-- what is asked of the comparison -/
def CmpO (P : Program) (g : Nat) : Prop := ∀ (x y : Int × Int) (W : World), Calls P g #[.agg (encO x).toArray, .agg (encO y).toArray] W fun e w' => e = .returned (.int .i64 (cfOr x y)) ∧ ∃ q os', w' = Sort.grow (W.drewN q) os'
set_option maxRecDepth 20000 in
theorem cmp_ord : CmpO Tryz.prog 17 := by
  intro x y w
  obtain ⟨a, b⟩ := x
  obtain ⟨c, d⟩ := y
  have hcf : (if cmpI b d ≠ 0 then cmpI b d else cmpI a c) = cfOr (a, b) (c, d) := cf_or (a, b) (c, d)
  have HC := Lib.hid hcf
  clear hcf
  show Calls Tryz.prog 17 #[.agg #[.int .i64 a, .int .i64 b], .agg #[.int .i64 c, .int .i64 d]] w fun e w' => e = .returned (.int .i64 (cfOr (a, b) (c, d))) ∧ ∃ q os', w' = Sort.grow (w.drewN q) os'
  go_enter Tryz.func17, Tryz.ntmps17
  go_wp2_with fail
  refine wp_region_pi [(1, [0, 1, 2, 3, 5, 6, 7, 8]), (2, [4]), (2, [9]), (2, [10]), (2, [11]), (1, [12])] [] (by kernel_rfl) (by kernel_rfl) ?_
  intro W hW
  simp only [picks, pick, List.map_cons, List.map_nil, List.getD_cons_succ, List.getD_cons_zero]
  have e1 : ∀ z : Bw W, z.1.cell? ⟨w.heap.size, 0, none⟩ = some (.int .i64 a) := fun z => z.cell (by rw [hW]; simp [go_sem])
  have e2 : ∀ z : Bw W, z.1.cell? ⟨w.heap.size, 1, none⟩ = some (.int .i64 b) := fun z => z.cell (by rw [hW]; simp [go_sem])
  have e3 : ∀ z : Bw W, z.1.cell? ⟨w.heap.size + 1, 0, none⟩ = some (.int .i64 c) := fun z => z.cell (by rw [hW]; simp [go_sem])
  have e4 : ∀ z : Bw W, z.1.cell? ⟨w.heap.size + 1, 1, none⟩ = some (.int .i64 d) := fun z => z.cell (by rw [hW]; simp [go_sem])
  have HWW := Lib.hid hW
  clear hW
  refine seg1 ?_
  repeat (go_big_quiet_step ((fail)))
  refine wpQuiet_nil ?_
  refine seg2 ?_
  go_wp2_with (go_at_call 19; refine (cmpI_any _ _ _).mono ?_; rintro e w' ⟨rfl, rfl⟩)
  refine ⟨⟨⟨_, Below.refl _ _⟩, rfl⟩, ?_⟩
  refine seg2 ?_
  go_wp2_with (go_at_call 19; refine (cmpI_any _ _ _).mono ?_; rintro e w' ⟨rfl, rfl⟩)
  refine ⟨⟨⟨_, Below.refl _ _⟩, rfl⟩, ?_⟩
  refine seg2 ?_
  go_wp2
  refine ⟨⟨⟨_, (Below.refl _ _).alloc (Nat.le_refl _) _⟩, rfl⟩, ?_⟩
  obtain ⟨W2, hW2⟩ : ∃ W2, W2 = W.alloc (Obj.cells #[Value.int IntKind.i64 (cmpI b d), Value.int IntKind.i64 (cmpI a c)] 3) := ⟨_, rfl⟩
  have g1 : W2.cell? ⟨W.heap.size, 0, none⟩ = some (.int .i64 (cmpI b d)) := by rw [hW2]; simp [go_sem]
  have g2 : W2.cell? ⟨W.heap.size, 1, none⟩ = some (.int .i64 (cmpI a c)) := by rw [hW2]; simp [go_sem]
  rw [← hW2]
  have HW2 := Lib.hid hW2
  clear hW2 e1 e2 e3 e4
  refine seg2 ?_
  go_wp2_with (go_at_call 18; refine (cmpOr_any _ _ _ _ g1 g2).mono ?_; rintro e w' ⟨rfl, rfl⟩; rw [HC.out])
  refine ⟨⟨⟨_, by rw [HW2.out]; exact (Below.refl _ _).alloc (Nat.le_refl _) _⟩, rfl⟩, ?_⟩
  refine seg1 ?_
  repeat (go_big_quiet_step ((fail)))
  refine wpQuiet_nil ?_
  refine seg3 ?_
  go_wp2
  go_ret
  refine ⟨rfl, 1, #[.cells #[.int .i64 a, .int .i64 b] 36, .cells #[.int .i64 c, .int .i64 d] 36, .cells #[.int .i64 (cmpI b d), .int .i64 (cmpI a c)] 3], ?_⟩
  rw [HW2.out, HWW.out, Sort.alloc_eq_grow, Sort.alloc_eq_grow, Sort.alloc_eq_grow, Sort.grow_grow, Sort.drew_grow, Sort.grow_grow]
  rfl
theorem flat_encO (l : List (Int × Int)) : Sort.flatK encO 2 l.toArray = (El.flat .i2 l).toArray := by
  have hl : (El.flat .i2 l).length = l.length * 2 := by rw [El.flat_len]; simp [El.sz]
  refine Array.ext (by simp [hl]) fun t h1 h2 => ?_
  have ht : t < l.length * 2 := by simpa using h1
  have hk : t / 2 < l.length := by omega
  have e1 : (Sort.flatK encO 2 l.toArray)[t] = (encO l[t / 2])[t % 2]! := by
    have := Sort.get_flatK encO 2 l.toArray t (by simpa using ht)
    rw [getElem!_pos _ t h1] at this
    have hg : l.toArray[t / 2]! = l[t / 2] := by rw [getElem!_pos l.toArray (t / 2) (by simpa using hk)]; simp
    rw [this, hg]
  rw [e1]
  have e2 := El.flat_at .i2 l (t / 2) (t % 2) ((encO l[t / 2])[t % 2]!) (by simpa using hk) (by
    have hg : l.getD (t / 2) (El.zero .i2) = l[t / 2] := by simp [List.getD_eq_getElem?_getD, hk]
    rw [hg]
    rcases (show t % 2 = 0 ∨ t % 2 = 1 by omega) with h | h <;> rw [h] <;> rfl)
  have e3 : t / 2 * El.sz .i2 + t % 2 = t := by show t / 2 * 2 + t % 2 = t; omega
  rw [e3] at e2
  have := (List.getElem?_eq_some_iff.1 e2).2
  rw [← this]; simp

theorem ltfOr : ltOf cfOr = ltOr := by
  funext x y
  unfold ltOf ltOr
  refine decide_eq_decide.2 ?_
  unfold cfOr OrLt
  by_cases h1 : x.2 < y.2
  · simp [h1]
  · by_cases h2 : y.2 < x.2
    · simp [h1, h2]; omega
    · by_cases h3 : x.1 < y.1
      · simp [h1, h2, h3]; omega
      · by_cases h4 : y.1 < x.1
        · simp [h1, h2, h3, h4]
        · simp [h1, h2, h3, h4]
section
variable {P : Program} {ρ : Go.Shelf.Ren}
theorem call_sortOr (L : SlLaysF0.n6 P ρ) (aE : ∀ w, (isAgg (ρ.t 24)).run P w = .ok true w) (zE : ∀ w, (Go.sizeOf (ρ.t 24)).run P w = .ok 2 w) {f g : Nat} (hf : f = ρ.f 6) (eg : ∀ args w, (callFunc g args).run P w = .ok (.enter g args) w) (hg : CmpO P g) (hcB : callB P f = true)
    {n0 : Nat} {R : AV → List Ck → Prop} {O : Ops} {X : Cx} (hO : O = std) (hX : Good P n0 R X) {i : Nat} {T : TypeId} {l r : List (Int × Int)} {s : St} {K : AV → St → Prop} (hi : nthCk s.hp i = .own T .i2 l) (hv : m_sortOr O l = some r) (hK : K (.tup []) ⟨s.fr, setK s.hp i (.own T .i2 r)⟩) :
    X .call false f [.c (.sl i), .c (.fn g [])] s K := by
  subst hO; subst hf
  obtain ⟨w0, F0, Q0, _, _, rfl, _⟩ := hX
  unfold m_sortOr at hv
  obtain ⟨hr, hv⟩ := grdS hv
  injection hv with hv
  subst hv
  have hr : l.length ≤ 1099511627776 := of_decide_eq_true hr
  refine Or.inr ⟨hcB, fun hp w hck hok vs hvs => ?_⟩
  rw [← hck] at hi hK
  obtain ⟨d, hd, hdc⟩ := nthCk_some hi (by simp)
  cases d <;> simp only [Ch.ck] at hdc <;> cases hdc
  rename_i A cap
  have hvs' : vs = [.slice A l.length cap, .func (.func g) #[] #[]] := by
    have hfd : (faces hp)[i]? = some ⟨A, l.length, cap, 2, []⟩ := by simp only [faces, List.getElem?_map, hd]; rfl
    simp only [List.map_cons, List.map_nil, AV.val, Ce.val, hfd, allv, Option.some.injEq] at hvs
    exact hvs.symm
  subst hvs'
  have hlen := sortOr_len l
  have hfin : ∀ hp' : List Ch, hp'.map Ch.ck = setK (hp.map Ch.ck) i (.own T .i2 (sortOr l)) → K (.tup []) ⟨s.fr, hp'.map Ch.ck⟩ := fun hp' h => by rw [h]; exact hK
  have hset : (hp.set i (.own A cap T .i2 (sortOr l))).map Ch.ck = setK (hp.map Ch.ck) i (.own T .i2 (sortOr l)) := by rw [setK_eq, List.map_set]; rfl
  have hown : w.ownsRow w0.heap.size T 2 (.slice A l.length cap) l.length (El.flat .i2 l) := hok.ok i _ hd
  rcases Nat.eq_zero_or_pos l.length with h0 | h0
  · have hl0 : l = [] := List.eq_nil_of_length_eq_zero h0
    have hs0 : sortOr l = l := by rw [hl0]; rw [hl0] at hlen; exact List.eq_nil_of_length_eq_zero hlen
    rw [h0]
    refine (AnyF.slices_SortFunc_none L A cap _ w).mono ?_
    rintro e w' ⟨rfl, rfl⟩
    refine ⟨.tup [], .tuple #[], hp, rfl, .inr rfl, FsLe.refl _, hok, (fun h => by cases h), hfin hp ?_⟩
    rw [setK_eq, hs0]
    refine List.ext_getElem? fun j => ?_
    rw [List.getElem?_set]
    split
    · rename_i e1; subst e1
      rw [List.getElem?_map, hd]
      have := (List.getElem?_eq_some_iff.1 hd).1
      simp [this, Ch.ck]
    · rfl
  · obtain ⟨h1, h2⟩ := hown
    rcases h2 with ⟨h2, h3⟩ | ⟨gb, cap', cur, hv1, hg1, hbk, q1, q2, q3, q4⟩
    · omega
    · injection hv1 with hv2 _ hv3
      subst hv2; subst hv3
      have hH : Sort.HoldsK encO 2 w gb 0 l.toArray := by
        unfold Sort.HoldsK
        rw [flat_encO]
        exact holds_of_blockV hbk (by rw [h1]; exact q4)
      have hc := AnyQ.slices_SortFunc_eq L 2 aE zE encO (fun _ => rfl) (fun x v hv => by simp [encO] at hv; rcases hv with rfl | rfl <;> rfl) cfOr (by rw [ltfOr]; exact ltOr_of) g #[] gb 0 cap l.toArray w eg
        (fun m os dk _ x y => by simpa using hg x y (sortWorldK encO 2 w gb 0 m dk os)) hH (Array.getElem?_eq_some_iff.1 hbk).1 (by simpa using by omega)
      have hsz : l.toArray.size = l.length := by simp
      rw [hsz] at hc
      refine Calls.mono hc fun e w' ⟨he, n, os, hw⟩ => ?_
      have hpd : sortWorldK encO 2 w gb 0 n (Sort.pdq (ltOf cfOr) l.toArray 0 l.length (Lib.bitLen l.length) true true) os = Sort.grow (Sort.putRow id (Sort.ahead w n) gb 0 (El.flat .i2 (sortOr l)).toArray) os := by
        unfold sortWorldK Sort.putRowK
        have e2 : Sort.pdq (ltOf cfOr) l.toArray 0 l.length (Lib.bitLen l.length) true true = (sortOr l).toArray := by unfold sortOr; rw [ltfOr, hsz]
        rw [e2, flat_encO]
      rw [hpd] at hw
      subst hw
      refine ⟨.tup [], .tuple #[], hp.set i (.own (some ⟨gb, 0, none⟩) cap T .i2 (sortOr l)), he, .inr rfl, ?_, hok.sorted hd hlen n os, (fun h => by cases h), hfin _ hset⟩
      rw [faces_set hd (by simp [Ch.face, hlen])]
      exact FsLe.refl _
end
theorem srt_ord {n0 : Nat} {R : AV → List Ck → Prop} {O : Ops} {X : Cx} (hO : O = std) (hX : Good Tryz.prog n0 R X) {i : Nat} {T : TypeId} {l r : List (Int × Int)} {s : St} {K : AV → St → Prop} (hi : nthCk s.hp i = .own T .i2 l) (hv : m_sortOr O l = some r) (hK : K (.tup []) ⟨s.fr, setK s.hp i (.own T .i2 r)⟩) :
    X .call false 16 [.c (.sl i), .c (.fn 17 [])] s K :=
  call_sortOr layOr Tryz.isAgg36 Tryz.sizeOf36 rfl (enters_of Tryz.func17 (by kernel_rfl) rfl) cmp_ord (by kernel_rfl) hO hX hi hv hK
theorem cpt_ord {n0 : Nat} {R : AV → List Ck → Prop} {O : Ops} {X : Cx} (hO : O = std) (hX : Good Tryz.prog n0 R X) {i : Nat} {T : TypeId} {l r : List (Int × Int)} {s : St} {K : AV → St → Prop} (hi : nthCk s.hp i = .own T .i2 l) (hv : m_compOr O l = some r) (hK : K (.c (.sl s.hp.length)) ⟨s.fr, setK s.hp i .gone ++ [.own T .i2 r]⟩) :
    X .call false 20 [.c (.sl i)] s K := by
  subst hO
  obtain ⟨w0, F0, Q0, _, _, rfl, _⟩ := hX
  unfold m_compOr at hv
  obtain ⟨hr, hv⟩ := grdS hv
  injection hv with hv
  subst hv
  have hr : l.length ≤ 1099511627776 := of_decide_eq_true hr
  refine Or.inr ⟨by kernel_rfl, fun hp w hck hok vs hvs => ?_⟩
  rw [← hck] at hi hK
  obtain ⟨d, hd, hdc⟩ := nthCk_some hi (by simp)
  cases d <;> simp only [Ch.ck] at hdc <;> cases hdc
  rename_i A cap
  have hvs' : vs = [.slice A l.length cap] := by
    have hfd : (faces hp)[i]? = some ⟨A, l.length, cap, 2, []⟩ := by simp only [faces, List.getElem?_map, hd]; rfl
    simp only [List.map_cons, List.map_nil, AV.val, Ce.val, hfd, allv, Option.some.injEq] at hvs
    exact hvs.symm
  subst hvs'
  have hown : w.ownsRow w0.heap.size T 2 (.slice A l.length cap) l.length (El.flat .i2 l) := hok.ok i _ hd
  have hfin : ∀ (A' : Option Addr) (c' : Nat) (w' : World) (e : Ending), e = .returned (.slice A' (Lib.compact l).length c') → HOk w0 (hp.set i (.gone (Ch.own A cap T .i2 l).face) ++ [.own A' c' T .i2 (Lib.compact l)]) w' →
      ∃ v ret hp', e = .returned ret ∧ AV.rel (faces hp') v ret ∧ FsLe (faces hp) (faces hp') ∧ HOk w0 hp' w' ∧ (false = true → Below w.heap.size w w' ∧ News w hp hp') ∧ K v ⟨s.fr, hp'.map Ch.ck⟩ := fun A' c' w' e he hk' => by
    refine ⟨.c (.sl (hp.map Ch.ck).length), _, _, he, .inr ?_, ?_, hk', (fun h => by cases h), ?_⟩
    · have := face_new (hp.set i (.gone (Ch.own A cap T .i2 l).face)) (.own A' c' T .i2 (Lib.compact l))
      simp only [List.length_set] at this
      simp only [AV.val, Ce.val, List.length_map, this]
      rfl
    · have := faces_app (hp.set i (.gone (Ch.own A cap T .i2 l).face)) (.own A' c' T .i2 (Lib.compact l))
      rw [faces_set (c' := .gone (Ch.own A cap T .i2 l).face) hd rfl] at this
      exact this
    · have e1 : (hp.set i (Ch.gone (Ch.own A cap T .i2 l).face) ++ [Ch.own A' c' T .i2 (Lib.compact l)]).map Ch.ck = setK (hp.map Ch.ck) i .gone ++ [.own T .i2 (Lib.compact l)] := by
        rw [setK_eq, List.map_append, List.map_set]; rfl
      rw [e1]; rw [hck] at hK ⊢; exact hK
  have hcl := compOr_len l
  rcases Nat.eq_zero_or_pos l.length with h0 | h0
  · have hl0 : l = [] := List.eq_nil_of_length_eq_zero h0
    have hs0 : Lib.compact l = l := by rw [hl0]; rfl
    rw [h0]
    refine (compact_ord0 A cap w).mono ?_
    rintro e w' ⟨rfl, rfl⟩
    refine hfin A cap w' _ (by rw [hs0, h0]) ?_
    rw [hs0]
    exact hok.grow hd hown ⟨rfl, rfl, rfl, Nat.le_refl _, fun _ _ _ => rfl⟩ (.inl rfl)
  · obtain ⟨h1, h2⟩ := hown
    rcases h2 with ⟨h2, h3⟩ | ⟨gb, cap', cur, hv1, hg1, hbk, q1, q2, q3, q4⟩
    · omega
    · injection hv1 with hv2 _ hv3
      subst hv2; subst hv3
      have hW : OrdW w gb l.toArray.size cur.size T l.toArray w := by
        refine ⟨rfl, rfl, rfl, rfl, fun _ _ => rfl, cur, hbk, rfl, ?_, fun j hj => ?_⟩
        · have : l.toArray.size = l.length := by simp
          omega
        · have hj' : j < l.length := by simpa using hj
          have hg : l.toArray[j]! = l.getD j (0, 0) := by
            rw [getElem!_pos _ j hj]
            simp [List.getD_eq_getElem?_getD, hj']
          have at' : ∀ f v, (El.i2.vals (l.getD j El.i2.zero))[f]? = some v → f < 2 → cur[j * 2 + f]? = some v := fun f v hv hf => by
            have h5 := El.flat_at .i2 l j f v hj' hv
            rw [← q4] at h5
            rw [← Array.getElem?_toList]
            have h6 : j * El.sz .i2 + f < l.length * 2 := by show j * 2 + f < _; omega
            rw [List.getElem?_take_of_lt h6] at h5
            exact h5
          rw [hg]
          exact ⟨at' 0 _ rfl (by omega), at' 1 _ rfl (by omega)⟩
      have hc := compact_ord T gb cap cur.size l.toArray w hW (by simpa using q1) q2
      have hsz : l.toArray.size = l.length := by simp
      rw [hsz] at hc
      refine Calls.mono hc fun e w' ⟨he, hW'⟩ => ?_
      have hcomp : Lib.compactUpTo l.toArray l.length = Lib.compact l := rfl
      rw [hcomp] at he hW'
      obtain ⟨cr, c1, c2, c3, c4⟩ := hW'.blk
      refine hfin _ _ w' e he ?_
      refine hok.grow hd ?_ ⟨hW'.os, hW'.tape, hW'.out, Nat.le_of_eq hW'.size.symm, fun k _ hne => hW'.other k fun e => hne (by simp [Value.ownBlock, e])⟩ (.inl rfl)
      refine ⟨El.flat_len _ _, .inr ⟨gb, cap, cr, rfl, hg1, c1, by omega, q2, by rw [c2, q3]; rfl, ?_⟩⟩
      show cr.toList.take ((Lib.compact l).length * 2) = El.flat .i2 (Lib.compact l)
      have hfl : (El.flat .i2 (Lib.compact l)).length = (Lib.compact l).length * 2 := El.flat_len _ _
      refine List.ext_getElem? fun t => ?_
      by_cases ht : t < (Lib.compact l).length * 2
      · rw [List.getElem?_take_of_lt ht, Array.getElem?_toList]
        have hj : t / 2 < (Lib.compact l).length := by omega
        have hg : (Lib.compact l).toArray[t / 2]! = (Lib.compact l).getD (t / 2) (0, 0) := by
          rw [getElem!_pos _ (t / 2) (by simpa using hj)]
          simp [List.getD_eq_getElem?_getD, hj]
        have g := c4 (t / 2) hj
        rw [hg] at g
        have f0 := El.flat_at .i2 (Lib.compact l) (t / 2) 0 _ hj rfl
        have f1 := El.flat_at .i2 (Lib.compact l) (t / 2) 1 _ hj rfl
        rcases (show t % 2 = 0 ∨ t % 2 = 1 by omega) with h | h
        · have e1 : t / 2 * 2 = t := by omega
          have e2 : t / 2 * El.sz .i2 + 0 = t := by show t / 2 * 2 + 0 = t; omega
          rw [e1] at g
          rw [e2] at f0
          rw [g.1, f0]
          rfl
        · have e1 : t / 2 * 2 + 1 = t := by omega
          have e2 : t / 2 * El.sz .i2 + 1 = t := by show t / 2 * 2 + 1 = t; omega
          rw [e1] at g
          rw [e2] at f1
          rw [g.2, f1]
          rfl
      · rw [List.getElem?_take_eq_none (by omega), List.getElem?_eq_none (by omega)]
set_option maxRecDepth 100000 in
theorem fn_clone_i2 {O0 : Ops} (hO0 : O0 = std) {l r1 : List (Int × Int)} (h : m_clone_i2 O0 l = some r1) :
    Fn Tryz.prog 15 [.c (.sl 0)] [.arr false .i2 l] (fun v cks => v = .c (.sl 1) ∧ cks = [.own 36 .i2 r1]) := by
  subst hO0
  unfold m_clone_i2 at h
  obtain ⟨hl, h⟩ := grdS h
  injection h with h
  subst h
  have hl : l.length ≤ 1099511627776 := of_decide_eq_true hl
  refine fn_run tab_holds eqs_holds mixed [] Tryz.func15 (by kernel_rfl) (by kernel_rfl) (Nat.le_of_ble_eq_true rfl) ?_
  intro O X hO hX
  cbv
  refine ⟨fun h => ?_, ?_⟩
  · have h0 : l = [] := by
      have := eq_t hO h
      rw [ofNat_e hO, len_e hO] at this
      exact List.eq_nil_of_length_eq_zero (Int.ofNat_eq_zero.1 this)
    subst h0
    cbv
    exact fin_ok hX rfl ⟨[2], .c (.sl 1), [.own 36 .i2 []], ⟨rfl, rfl⟩, rfl, rfl, rfl, rfl, by cbv; try simp⟩
  · cbv
    refine ⟨room_mk hO (by simp), room_mk hO hl, ?_⟩
    refine fin_ok hX rfl ⟨[3], .c (.sl 1), [.own 36 .i2 l], ⟨rfl, rfl⟩, rfl, rfl, rfl, rfl, ?_⟩
    rw [app_e hO]
    cbv; try simp
end Go.Proofs.YtmnhfaaaaejpaaaGreat
