/-
  The reference's at and Span.
-/
import Derived.Test.YtnieceplfjmocaaSpan
import Derived.Test.YtnieceplfjmocaaQTail
namespace Go.Proofs.Ytnieceplfjmocaa
open Go.RowKit Go.BigFrame

set_option maxHeartbeats 4000000 in
theorem rat_near (o p k : Int) (A : Option Addr) (c : Nat) (l : List Sp) (w : World) (h : SpsR w A l) (hv : Vd o p l) (hk1 : -9223372036854775808 ≤ k) (hk2 : k ≤ 9223372036854775807)
    (t1 : k / (l.length : Int) ≤ 17592186044416 / p + 1) (t2 : -(17592186044416 / p) - 1 ≤ k / (l.length : Int)) :
    Calls Try.prog 56 #[.agg #[.int .i64 o, .int .i64 p, .slice A l.length c], .int .i64 k] w fun e w' => e = .returned (.tuple #[.agg #[.int .i64 (atF o p l k), .int .i64 (atT o p l k)], .bool (onB o p l k)]) ∧ Below w.heap.size w w' := by
  have h0 := hv.n0
  have h5 := hv.n5
  have o1 := hv.o1
  have o2 := hv.o2
  have p1 := hv.p1
  have p2 := hv.p2
  have z1 : 0 ≤ 17592186044416 / p := Int.ediv_nonneg (by omega) (by omega)
  have z2 : 17592186044416 / p ≤ 17592186044416 := Int.ediv_le_self _ (by omega)
  obtain ⟨hq1, hq2⟩ := near_bd (n := l.length) p1 p2 (by omega) (by omega) t1 t2
  obtain ⟨m1, m2, m3, m4⟩ := mul_small h0 h5 hv.p1 hq1 hq2
  have hmod : k - (l.length : Int) * (k / (l.length : Int)) = k % (l.length : Int) := by have := Int.emod_add_mul_ediv k (l.length : Int); omega
  have hm := div_bd (a := k) (b := (l.length : Int)) (by omega)
  have i1 : 0 ≤ k - (l.length : Int) * (k / (l.length : Int)) := by omega
  have i2 : k - (l.length : Int) * (k / (l.length : Int)) < (l.length : Int) := by omega
  obtain ⟨b, o', rfl, hc⟩ := h h0
  obtain ⟨c1, c2⟩ := hc (k - (l.length : Int) * (k / (l.length : Int))).toNat (by omega)
  obtain ⟨b1, b2, b3⟩ := hv.bd (show (k - (l.length : Int) * (k / (l.length : Int))).toNat < l.length by omega)
  have hF : atF o p l k = fr l (k - (l.length : Int) * (k / (l.length : Int))).toNat + (o + p * (k / (l.length : Int))) := by rw [hmod]; rfl
  have hT : atT o p l k = tt l (k - (l.length : Int) * (k / (l.length : Int))).toNat + (o + p * (k / (l.length : Int))) := by rw [hmod]; rfl
  have hO : ivB (fr l (k - (l.length : Int) * (k / (l.length : Int))).toNat + (o + p * (k / (l.length : Int)))) (tt l (k - (l.length : Int) * (k / (l.length : Int))).toNat + (o + p * (k / (l.length : Int)))) = onB o p l k := by
    rw [← hF, ← hT]
    have : atF o p l k < atT o p l k := by rw [hF, hT]; omega
    simp [ivB, onB, this]
  have HF := Lib.hid hF
  have HT := Lib.hid hT
  have HO := Lib.hid hO
  have hblt : b < w.heap.size := World.block_lt_of_cell? _ _ c1
  clear hmod hm hc h hv hF hT hO
  go_enter Try.func56, Try.ntmps56
  go_wp2_with (go_at_call 58; refine (rfloor_any _ _ _ hk1 hk2 (by omega) (by omega)).mono ?_; rintro e w' ⟨rfl, n, rfl⟩)
  refine wp_region_tail 3 (by kernel_rfl) (by kernel_rfl) ?_
  intro W hW
  simp only [List.take_succ_cons, List.take_zero, List.drop_succ_cons, List.drop_zero]
  have hb1 : Below w.heap.size w W := by rw [hW]; exact ((below_drewN (((Below.refl _ _).alloc (Nat.le_refl _) _).alloc (by simp) _) n).alloc (by simp; omega) _).alloc (by simp; omega) _
  have e1 : ∀ z : Bw W, z.1.cell? ⟨w.heap.size + 1 + 1 + 1, 0, none⟩ = some (.int .i64 (fr l (k - (l.length : Int) * (k / (l.length : Int))).toNat + (o + p * (k / (l.length : Int))))) := fun z => z.cell (by rw [hW]; simp [go_sem])
  have e2 : ∀ z : Bw W, z.1.cell? ⟨w.heap.size + 1 + 1 + 1, 1, none⟩ = some (.int .i64 (tt l (k - (l.length : Int) * (k / (l.length : Int))).toNat + (o + p * (k / (l.length : Int))))) := fun z => z.cell (by rw [hW]; simp [go_sem])
  have hB : Blk W (w.heap.size + 1) 28 #[.int .i64 0, .int .i64 0] := by
    rw [hW]
    have hB0 : Blk (w.alloc (.cells #[.int .i64 o, .int .i64 p, .slice (some ⟨b, o', none⟩) l.length c] 24) |>.alloc (.cells #[.int .i64 0, .int .i64 0] 28)) (w.heap.size + 1) 28 #[.int .i64 0, .int .i64 0] := by
      have := Blk.new (w.alloc (.cells #[.int .i64 o, .int .i64 p, .slice (some ⟨b, o', none⟩) l.length c] 24)) 28 #[.int .i64 0, .int .i64 0]
      simpa using this
    exact ((hB0.drewN n).alloc _).alloc _
  have HB := Lib.hid hB
  clear hW hB c1 c2
  repeat (go_big_quiet_step ((go_at_call 24; exact quiet_b (rvalid_at HO.out _))))
  refine wpQuiet_nil ?_
  rintro wq ⟨⟨_, hq⟩, rfl⟩
  have hB2 := HB.out.below hq
  have y0 := hB2.cell 0
  have y1 := hB2.cell 1
  have x0 := hB2.frozen 0
  have x1 := hB2.frozen 1
  simp at y0 y1 x0 x1
  have hlt2 := hB2.lt
  have hbq := below_next hb1 hq
  clear e1 e2 hb1 hq hB2
  go_wp2
  refine bodyPost_ret (v := .tuple #[.agg #[.int .i64 (atF o p l k), .int .i64 (atT o p l k)], .bool (onB o p l k)]) (by rw [HF.out, HT.out]; simp [results, Try.results56, go_sem, y0, y1]) rfl ⟨rfl, ?_⟩
  exact (hbq.setCell (by simp) _).setCell (by simp) _

set_option maxHeartbeats 2000000 in
theorem rat_far (o p k : Int) (A : Option Addr) (c : Nat) (l : List Sp) (w : World) (hv : Vd o p l) (hk1 : -9223372036854775808 ≤ k) (hk2 : k ≤ 9223372036854775807)
    (t : 17592186044416 / p + 1 < k / (l.length : Int) ∨ k / (l.length : Int) < -(17592186044416 / p) - 1) :
    Calls Try.prog 56 #[.agg #[.int .i64 o, .int .i64 p, .slice A l.length c], .int .i64 k] w fun e w' => e = .returned (.tuple #[.agg #[.int .i64 0, .int .i64 0], .bool false]) ∧ Below w.heap.size w w' := by
  have h0 := hv.n0
  have h5 := hv.n5
  have p1 := hv.p1
  have p2 := hv.p2
  have z1 : 0 ≤ 17592186044416 / p := Int.ediv_nonneg (by omega) (by omega)
  have z2 : 17592186044416 / p ≤ 17592186044416 := Int.ediv_le_self _ (by omega)
  by_cases t1 : 17592186044416 / p + 1 < k / (l.length : Int)
  · have d1 : decide (17592186044416 / p + 1 < k / (l.length : Int)) = true := by simp; omega
    clear t t1 hv
    go_enter Try.func56, Try.ntmps56
    go_wp2_with (go_at_call 58; refine (rfloor_any _ _ _ hk1 hk2 (by omega) (by omega)).mono ?_; rintro e w' ⟨rfl, n, rfl⟩)
    refine bodyPost_ret (v := .tuple #[.agg #[.int .i64 0, .int .i64 0], .bool false]) (by simp [results, Try.results56, go_sem]) rfl ⟨rfl, ?_⟩
    exact ((below_drewN (((Below.refl _ _).alloc (Nat.le_refl _) _).alloc (by simp) _) n).setCell (by simp) _).setCell (by simp) _
  · have t2 : k / (l.length : Int) < -(17592186044416 / p) - 1 := by omega
    have d1 : decide (17592186044416 / p + 1 < k / (l.length : Int)) = false := by simp; omega
    have d2 : decide (k / (l.length : Int) < -(17592186044416 / p + 1)) = true := by simp; omega
    clear t t1 hv
    go_enter Try.func56, Try.ntmps56
    go_wp2_with (go_at_call 58; refine (rfloor_any _ _ _ hk1 hk2 (by omega) (by omega)).mono ?_; rintro e w' ⟨rfl, n, rfl⟩)
    refine bodyPost_ret (v := .tuple #[.agg #[.int .i64 0, .int .i64 0], .bool false]) (by simp [results, Try.results56, go_sem]) rfl ⟨rfl, ?_⟩
    exact ((below_drewN (((Below.refl _ _).alloc (Nat.le_refl _) _).alloc (by simp) _) n).setCell (by simp) _).setCell (by simp) _

theorem rat_any (o p k : Int) (A : Option Addr) (c : Nat) (l : List Sp) (w : World) (h : SpsR w A l) (hv : Vd o p l) (hk1 : -9223372036854775808 ≤ k) (hk2 : k ≤ 9223372036854775807) :
    Calls Try.prog 56 #[.agg #[.int .i64 o, .int .i64 p, .slice A l.length c], .int .i64 k] w fun e w' => (∃ a b, e = .returned (.tuple #[.agg #[.int .i64 a, .int .i64 b], .bool (onB o p l k)]) ∧ (onB o p l k = true → a = atF o p l k ∧ b = atT o p l k)) ∧ Below w.heap.size w w' := by
  by_cases t : k / (l.length : Int) ≤ 17592186044416 / p + 1 ∧ -(17592186044416 / p) - 1 ≤ k / (l.length : Int)
  · exact (rat_near o p k A c l w h hv hk1 hk2 t.1 t.2).mono fun e w' ⟨h1, h2⟩ => ⟨⟨_, _, h1, fun _ => ⟨rfl, rfl⟩⟩, h2⟩
  · have hf : onB o p l k = false := by
      by_cases t1 : k / (l.length : Int) ≤ 17592186044416 / p + 1
      · exact far_lo hv (M := 17592186044416) (by omega) (by omega)
      · exact far_hi hv (M := 17592186044416) (by omega) (by omega)
    exact (rat_far o p k A c l w hv hk1 hk2 (by omega)).mono fun e w' ⟨h1, h2⟩ => ⟨⟨0, 0, by rw [h1, hf], fun h => by rw [hf] at h; cases h⟩, h2⟩
end Go.Proofs.Ytnieceplfjmocaa
