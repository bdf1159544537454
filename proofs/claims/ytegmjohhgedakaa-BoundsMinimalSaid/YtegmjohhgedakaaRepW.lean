/-
  slices.Repeat of one number: what it returns.
-/
import Derived.Test.YtegmjohhgedakaaPi
import Derived.Test.YtegmjohhgedakaaProg
import Derived.Shelf.Bits.Mul64
import Derived.Laws.CopyOwn
import Derived.Deep.OwnRows
namespace Go.Proofs.Ytegmjohhgedakaa
open Go.RowKit Go.BigFrame

set_option maxHeartbeats 1000000 in
theorem mulr64_any (x y : Nat) (hx : x < 18446744073709551616) (hy : y < 18446744073709551616) (w : World) :
    Calls Try.prog 78 #[.int .u64 x, .int .u64 y] w fun e w' => e = .returned (.tuple #[.int .u64 ((x * y / 18446744073709551616 : Nat) : Int), .int .u64 ((x * y % 18446744073709551616 : Nat) : Int)]) ∧ w = w' := by
  obtain ⟨bd, bt, bw, hhi⟩ := Lib.mul64_hi x y hx hy
  have ba := Lib.half_mul_le (a := x / 4294967296) (b := y / 4294967296) (by omega) (by omega)
  have bb := Lib.half_mul_le (a := x / 4294967296) (b := y % 4294967296) (by omega) (by omega)
  have bc := Lib.half_mul_le (a := x % 4294967296) (b := y / 4294967296) (by omega) (by omega)
  have ba' : x / 4294967296 * (y / 4294967296) < 18446744073709551616 := by omega
  have bb' : x / 4294967296 * (y % 4294967296) < 18446744073709551616 := by omega
  have bc' : x % 4294967296 * (y / 4294967296) < 18446744073709551616 := by omega
  have bh1 : x / 4294967296 * (y / 4294967296) + (x / 4294967296 * (y % 4294967296) + x % 4294967296 * (y % 4294967296) / 4294967296) / 4294967296 < 18446744073709551616 := by omega
  have bh : x / 4294967296 * (y / 4294967296) + (x / 4294967296 * (y % 4294967296) + x % 4294967296 * (y % 4294967296) / 4294967296) / 4294967296 + ((x / 4294967296 * (y % 4294967296) + x % 4294967296 * (y % 4294967296) / 4294967296) % 4294967296 + x % 4294967296 * (y / 4294967296)) / 4294967296 < 18446744073709551616 := by omega
  go_enter Try.func78, Try.ntmps78
  go_wp2
  simp only [Mul64.maskN x hx, Mul64.maskN y hy, Mul64.divN, Mul64.mulN, Mul64.addN, Mul64.wrapN _ bd, Mul64.wrapN _ bb', Mul64.wrapN _ bt, Mul64.maskN _ bt, Mul64.wrapN _ bc', Mul64.wrapN _ bw, Mul64.wrapN _ ba', Mul64.wrapN _ bh1, Mul64.wrapN _ bh, Mul64.wrapM (x * y)]
  rw [hhi]
  go_ret2
  exact ⟨rfl, rfl⟩
theorem mulr_any (y : Nat) (hy : y < 18446744073709551616) (w : World) :
    Calls Try.prog 66 #[.int .u64 1, .int .u64 y] w fun e w' => e = .returned (.tuple #[.int .u64 0, .int .u64 (y : Int)]) ∧ w = w' := by
  have h := mulr64_any 1 y (by omega) hy w
  rw [Nat.one_mul, Nat.div_eq_of_lt hy, Nat.mod_eq_of_lt hy] at h
  go_enter Try.func66, Try.ntmps66
  go_wp2_with (go_at_call 78; refine h.mono ?_; rintro e w' ⟨rfl, rfl⟩)
  go_ret2
  exact ⟨rfl, rfl⟩
/-- a row of which the first k cells are x -/
def rowR (N k : Nat) (x : Int) : List Value := List.replicate k (.int .i64 x) ++ List.replicate (N - k) (.int .i64 0)
set_option maxRecDepth 20000 in
set_option maxHeartbeats 4000000 in
theorem rep_any (N : Nat) (x : Int) (A : Addr) (c : Nat) (w : World) (hc : w.cell? A = some (.int .i64 x)) (hN : N ≤ 1000000) :
    Calls Try.prog 55 #[.slice (some A) 1 c, .int .i64 (N : Int)] w fun e w' => e = .returned (.slice (some ⟨w.heap.size, 0, none⟩) N N) ∧ w'.heap[w.heap.size]? = some (.cells (List.replicate N (Value.int .i64 x)).toArray 3 (0, 0)) ∧ Below w.heap.size w w' := by
  have d0 : decide ((N : Int) < 0) = false := by simp
  have w1 : IntKind.u64.wrap (N : Int) = (N : Int) := by rw [IntKind.wrap_u64]; omega
  have w2 : IntKind.i64.wrap (N : Int) = (N : Int) := by rw [IntKind.wrap_i64]; omega
  have d1 : decide ((9223372036854775807 : Int) < (N : Int)) = false := by simp; omega
  have hmk : ∀ W : World, (Instr.makeSlice 26 (.int .i64 (N : Int)) (.int .i64 (N : Int))).run Try.prog W = .ok (.slice (some ⟨W.heap.size, 0, none⟩) N N) (W.alloc (.cells (madeCells #[Value.int .i64 0] N) 3)) := fun W => by
    exact run_make_row' 26 3 (.int .i64 0) 8 Try.underlying26 (by kernel_rfl) rfl .i64 .i64 N (by omega) (by omega) W
  have hmz : madeCells #[Value.int .i64 0] N = (rowR N 0 x).toArray := by
    unfold madeCells rowR
    refine Array.ext (by simp) fun i h1 h2 => ?_
    simp [Nat.mod_one]
  rw [hmz] at hmk
  clear hmz
  have hlen : ∀ k, k ≤ N → (rowR N k x).length = N := fun k hk => by unfold rowR; simp; omega
  -- the first copy
  obtain ⟨W1, hrun, hG1, hB1⟩ : ∃ W1, Sem.run Try.prog (Builtin.copy_ #[26, 26] 3 #[.slice (some ⟨w.heap.size, 0, none⟩) N N, .slice (some A) 1 c]) (w.alloc (.cells (rowR N 0 x).toArray 3)) = .ok (goInt ((Nat.min 1 N : Nat) : Int)) W1 ∧
      W1.heap[w.heap.size]? = some (.cells (rowR N (Nat.min 1 N) x).toArray 3 (0, 0)) ∧ Below w.heap.size w W1 := by
    have hsz : (Try.prog.info? 3).map (·.size) = some 1 := by kernel_rfl
    have hb0 : Below w.heap.size w (w.alloc (.cells (rowR N 0 x).toArray 3)) := (Below.refl _ w).alloc (Nat.le_refl _) _
    have hg0 : (w.alloc (.cells (rowR N 0 x).toArray 3)).heap[w.heap.size]? = some (.cells (rowR N 0 x).toArray 3 (0, 0)) := heap_alloc_new w _
    by_cases hN0 : N = 0
    · subst hN0
      refine ⟨_, run_copy_none (P := Try.prog) _ 26 26 3 3 _ _ 0 0 1 c Try.underlying26 hsz rfl, hg0, hb0⟩
    · have hm : Nat.min 1 N = 1 := Nat.min_eq_left (by omega)
      have hcA : A.block < w.heap.size := World.block_lt_of_cell? _ _ hc
      have hr := run_copy_row (P := Try.prog) (w.alloc (.cells (rowR N 0 x).toArray 3)) 26 26 3 3 w.heap.size 0 N N A 1 c (rowR N 0 x).toArray 3 [.int .i64 x] Try.underlying26 hsz hg0 (by rw [hm]; rfl)
        (fun j v hj => by
          cases j with
          | zero =>
            simp at hj
            subst hj
            have ha : A.add 0 = A := by unfold Addr.add; split <;> simp_all
            rw [ha]
            exact (hb0.cell hcA).trans hc
          | succ j => simp at hj) (by rw [List.size_toArray, hlen 0 (by omega)]; simp; omega) (by simp [Value.oneCell'])
      refine ⟨(w.alloc (.cells (rowR N 0 x).toArray 3)).setRow w.heap.size (List.take 0 (rowR N 0 x).toArray.toList ++ [Value.int .i64 x] ++ List.drop (0 + [Value.int .i64 x].length) (rowR N 0 x).toArray.toList).toArray, by rw [hm]; exact hr, ?_, hb0.trans ⟨rfl, rfl, rfl, by simp [World.setRow], fun k hk => setRow_other _ _ _ _ (by omega)⟩⟩
      rw [setRow_heap _ _ _ _ _ _ hg0, hm]
      refine congrArg some ?_
      have : List.take 0 (rowR N 0 x).toArray.toList ++ [Value.int .i64 x] ++ List.drop (0 + [Value.int .i64 x].length) (rowR N 0 x).toArray.toList = rowR N 1 x := by
        unfold rowR
        simp
      rw [this]
  have HG1 := Lib.hid hG1
  have HB1 := Lib.hid hB1
  clear hG1 hB1
  go_enter Try.func55, Try.ntmps55
  go_wp2_with (go_at_call 66; refine (mulr_any N (by omega) _).mono ?_; rintro e w' ⟨rfl, rfl⟩)
  go_loopw [8] (fun v wr => ∃ k : Nat, k ≤ N ∧ (1 ≤ N → 1 ≤ k) ∧ v = .int .i64 k ∧ wr.heap[w.heap.size]? = some (.cells (rowR N k x).toArray 3 (0, 0)) ∧ Below w.heap.size w wr) (fun v _ => N - (intOf v).toNat)
  case atStart => exact ⟨Nat.min 1 N, Nat.min_le_right _ _, fun h => Nat.le_of_eq (Nat.min_eq_left h).symm, rfl, HG1.out, HB1.out⟩
  case round =>
    obtain ⟨k, hk, hk1, rfl, hG, hB⟩ := hrel
    have HG := Lib.hid hG
    have HB := Lib.hid hB
    clear hG hB hrun
    by_cases hlt : k < N
    · have dk : decide ((k : Int) < (N : Int)) = true := by simp; omega
      go_wp2_with fail
      refine wp_region_pi [(0, [0]), (1, [1, 2, 3, 4, 5, 6])] [7, 8, 9] (by kernel_rfl) (by kernel_rfl) ?_
      intro W hW
      simp only [picks, pick, List.map_cons, List.map_nil, List.getD_cons_succ, List.getD_cons_zero]
      refine seg0 ?_
      go_big_quiet_step ((fail))
      refine wpQuiet_nil ?_
      refine seg1 ?_
      repeat (go_big_quiet_step ((fail)))
      refine wpQuiet_nil ?_
      refine seg3 ?_
      obtain ⟨m, hm⟩ : ∃ m, m = Nat.min k (N - k) := ⟨_, rfl⟩
      have hGW : W.heap[w.heap.size]? = some (.cells (rowR N k x).toArray 3 (0, 0)) := by rw [hW]; exact HG.out
      have hcp := run_copy_row (P := Try.prog) W 26 26 3 3 w.heap.size k (N - k) (N - k) ⟨w.heap.size, 0, none⟩ k N (rowR N k x).toArray 3 (List.replicate m (.int .i64 x)) Try.underlying26 (by kernel_rfl) hGW (by rw [List.length_replicate, hm])
        (fun j v hj => by
          rw [List.getElem?_replicate] at hj
          split at hj
          · rename_i hjm
            injection hj with hj
            subst hj
            have hjk : j < k := by have : m ≤ k := by rw [hm]; exact Nat.min_le_left _ _
                                   omega
            rw [Addr.add_lit, Nat.zero_add]
            simp only [World.cell?, hGW]
            simp [rowR, List.getElem?_append_left, hjk]
          · cases hj) (by rw [List.size_toArray, hlen k hk, List.length_replicate, hm]; have : Nat.min k (N - k) ≤ N - k := Nat.min_le_right _ _
                          omega) (by simp [Value.oneCell'])
      rw [List.length_replicate] at hcp
      have hm2 : m ≤ N - k := by rw [hm]; exact Nat.min_le_right _ _
      have hmk2 : m = k ∨ m = N - k := by
        rw [hm]
        rcases Nat.le_total k (N - k) with h | h
        · exact .inl (Nat.min_eq_left h)
        · exact .inr (Nat.min_eq_right h)
      have hnew : List.take k (rowR N k x).toArray.toList ++ List.replicate m (Value.int .i64 x) ++ List.drop (k + m) (rowR N k x).toArray.toList = rowR N (k + m) x := by
        unfold rowR
        have e1 : List.take k (List.replicate k (Value.int .i64 x) ++ List.replicate (N - k) (Value.int .i64 0)) = List.replicate k (Value.int .i64 x) := List.take_left' (by simp)
        have e2 : List.drop (k + m) (List.replicate k (Value.int .i64 x) ++ List.replicate (N - k) (Value.int .i64 0)) = List.replicate (N - (k + m)) (Value.int .i64 0) := by
          rw [List.drop_append, List.drop_eq_nil_of_le (by simp), List.nil_append, List.length_replicate, List.drop_replicate]
          congr 1; omega
        rw [e1, e2, List.replicate_append_replicate]
      rw [hnew] at hcp
      have hWr : Below w.heap.size w (W.setRow w.heap.size (rowR N (k + m) x).toArray) := by
        rw [hW]
        exact (HB.out.drew).trans ⟨rfl, rfl, rfl, by simp [World.setRow], fun k hk => setRow_other _ _ _ _ (by omega)⟩
      have hGr : (W.setRow w.heap.size (rowR N (k + m) x).toArray).heap[w.heap.size]? = some (.cells (rowR N (k + m) x).toArray 3 (0, 0)) := setRow_heap _ _ _ _ _ _ hGW
      have HWr := Lib.hid hWr
      have HGr := Lib.hid hGr
      clear hWr hGr hGW hnew hW HG HB hm
      go_wp2
      go_roundw
      case rel => exact ⟨k + m, by omega, by omega, by go_num, HGr.out, HWr.out⟩
      case measure => simp [intOf]; omega
    · have dk : decide ((k : Int) < (N : Int)) = false := by simp; omega
      obtain rfl : k = N := by omega
      go_wp2
      go_ret
      refine ⟨rfl, ?_, HB.out⟩
      have := HG.out
      unfold rowR at this
      rw [Nat.sub_self, List.replicate_zero, List.append_nil] at this
      exact this
end Go.Proofs.Ytegmjohhgedakaa
