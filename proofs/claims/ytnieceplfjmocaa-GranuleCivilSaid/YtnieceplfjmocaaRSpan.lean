/-
  Span, the program's and the reference's: the same for any number.
-/
import Derived.Test.YtnieceplfjmocaaRAt
namespace Go.Proofs.Ytnieceplfjmocaa
open Go.RowKit Go.BigFrame

theorem span_any (o p k : Int) (A : Option Addr) (c : Nat) (l : List Sp) (w : World) (h : SpsR w A l) (hn : l.length ≤ maxLen) (hk1 : -9223372036854775808 ≤ k) (hk2 : k ≤ 9223372036854775807) :
    Calls Try.prog 17 #[.agg #[.int .i64 o, .int .i64 p, .slice A l.length c], .int .i64 k] w fun e w' => SpanRes e o p l k ∧ Below w.heap.size w w' := by
  cases hv : validB o p l with
  | false => exact span_inv o p k A c l w h hn hv
  | true => exact span_val o p k A c l w h hv hk1 hk2

set_option maxHeartbeats 2000000 in
theorem rspan_inv (o p k : Int) (A : Option Addr) (c : Nat) (l : List Sp) (w : World) (h : SpsR w A l) (hn : l.length ≤ maxLen) (hv : validB o p l = false) :
    Calls Try.prog 28 #[.agg #[.int .i64 o, .int .i64 p, .slice A l.length c], .int .i64 k] w fun e w' => SpanRes e o p l k ∧ Below w.heap.size w w' := by
  have HR := Lib.hid (spanE_v (k := k) hv)
  have HV := Lib.hid hv
  have HN := Lib.hid hn
  have hW := ((Below.refl w.heap.size w).alloc (Nat.le_refl _) (.cells #[.int .i64 o, .int .i64 p, .slice A l.length c] 24)).alloc (by simp) (.cells #[.int .i64 0, .int .i64 0] 28)
  have hB := Blk.new (w.alloc (.cells #[.int .i64 o, .int .i64 p, .slice A l.length c] 24)) 28 #[.int .i64 0, .int .i64 0]
  have HS := Lib.hid (h.below hW)
  have HW := Lib.hid hW
  have HB := Lib.hid hB
  clear hv h hW hB hn
  go_enter Try.func28, Try.ntmps28
  go_wp2_with (go_at_call 20; refine (rvalidC_at _ HS.out HN.out HV.out).mono ?_; rintro e w1 ⟨rfl, hb1⟩; have hB1 := HB.out.below hb1; have g0 := hB1.cell 0; have g1 := hB1.cell 1; have f0 := hB1.frozen 0; have f1 := hB1.frozen 1; simp at g0 g1 f0 f1)
  obtain ⟨r1, r2, r3⟩ := HR.out
  refine bodyPost_ret (v := .tuple #[.agg #[.int .i64 0, .int .i64 0], .int .i64 1]) (by simp [results, Try.results28, go_sem, g0, g1]) rfl ⟨by rw [SpanRes, r1, r2, r3], ?_⟩
  exact ((below_next HW.out hb1).setCell (by simp) _).setCell (by simp) _

theorem rat_on {o p k : Int} {A : Option Addr} {c : Nat} {l : List Sp} (w : World) (h : SpsR w A l) (hv : Vd o p l) (hk1 : -9223372036854775808 ≤ k) (hk2 : k ≤ 9223372036854775807) (ho : onB o p l k = true) :
    Calls Try.prog 56 #[.agg #[.int .i64 o, .int .i64 p, .slice A l.length c], .int .i64 k] w fun e w' => e = .returned (.tuple #[.agg #[.int .i64 (atF o p l k), .int .i64 (atT o p l k)], .bool true]) ∧ Below w.heap.size w w' :=
  (rat_any o p k A c l w h hv hk1 hk2).mono fun _ _ ⟨⟨_, _, h1, h2⟩, h3⟩ => ⟨by rw [h1, (h2 ho).1, (h2 ho).2, ho], h3⟩
theorem rat_off {o p k : Int} {A : Option Addr} {c : Nat} {l : List Sp} (w : World) (h : SpsR w A l) (hv : Vd o p l) (hk1 : -9223372036854775808 ≤ k) (hk2 : k ≤ 9223372036854775807) (ho : onB o p l k = false) :
    Calls Try.prog 56 #[.agg #[.int .i64 o, .int .i64 p, .slice A l.length c], .int .i64 k] w fun e w' => ∃ a b, e = .returned (.tuple #[.agg #[.int .i64 a, .int .i64 b], .bool false]) ∧ Below w.heap.size w w' :=
  (rat_any o p k A c l w h hv hk1 hk2).mono fun _ _ ⟨⟨a, b, h1, _⟩, h3⟩ => ⟨a, b, by rw [h1, ho], h3⟩

set_option maxHeartbeats 2000000 in
theorem rspan_val (o p k : Int) (A : Option Addr) (c : Nat) (l : List Sp) (w : World) (h : SpsR w A l) (hv : validB o p l = true) (hk1 : -9223372036854775808 ≤ k) (hk2 : k ≤ 9223372036854775807) :
    Calls Try.prog 28 #[.agg #[.int .i64 o, .int .i64 p, .slice A l.length c], .int .i64 k] w fun e w' => SpanRes e o p l k ∧ Below w.heap.size w w' := by
  have VD := Vd.of hv
  have hn5 := VD.n5
  have HV := Lib.hid hv
  have HD := Lib.hid VD
  have HN := Lib.hid (show l.length ≤ maxLen by simp only [maxLen]; omega)
  have hW := ((Below.refl w.heap.size w).alloc (Nat.le_refl _) (.cells #[.int .i64 o, .int .i64 p, .slice A l.length c] 24)).alloc (by simp) (.cells #[.int .i64 0, .int .i64 0] 28)
  have hB := Blk.new (w.alloc (.cells #[.int .i64 o, .int .i64 p, .slice A l.length c] 24)) 28 #[.int .i64 0, .int .i64 0]
  have hC := (Blk.new w 24 #[.int .i64 o, .int .i64 p, .slice A l.length c]).alloc (.cells #[.int .i64 0, .int .i64 0] 28)
  have HS := Lib.hid (h.below hW)
  have HW := Lib.hid hW
  have HB := Lib.hid hB
  have HC := Lib.hid hC
  clear hv h hW hB hC VD
  by_cases ho : onB o p l k = true
  · have HR := Lib.hid (spanE_on HV.out ho)
    have HO := Lib.hid ho
    clear ho
    go_enter Try.func28, Try.ntmps28
    go_wp2_with (first | (go_at_call 20; refine (rvalidC_at _ HS.out HN.out HV.out).mono ?_; rintro e w1 ⟨rfl, hb1⟩; have hB1 := HB.out.below hb1; have hC1 := HC.out.below hb1; have g4 := hC1.cell 0; have g2 := hC1.cell 1; have g3 := hC1.cell 2; simp at g2 g3 g4) | (go_at_call 56; refine (rat_on _ (HS.out.below hb1) HD.out hk1 hk2 HO.out).mono ?_; rintro e w2 ⟨rfl, hb2⟩; have hB2 := hB1.below hb2; have y0 := hB2.cell 0; have y1 := hB2.cell 1; have x0 := hB2.frozen 0; have x1 := hB2.frozen 1; simp at y0 y1 x0 x1; have hlt2 := hB2.lt; simp at hlt2))
    obtain ⟨r1, r2, r3⟩ := HR.out
    refine bodyPost_ret (v := .tuple #[.agg #[.int .i64 (atF o p l k), .int .i64 (atT o p l k)], .int .i64 0]) (by simp [results, Try.results28, go_sem, y0, y1, hlt2]) rfl ⟨by rw [SpanRes, r1, r2, r3], ?_⟩
    have hb12 := below_next (below_next HW.out hb1) hb2
    exact ((hb12.setCell (by simp) _).setCell (by simp) _).alloc (by simp; have := hb12.size; omega) _
  · have ho' : onB o p l k = false := by simpa using ho
    have HR := Lib.hid (spanE_off HV.out ho')
    have HO := Lib.hid ho'
    clear ho ho'
    go_enter Try.func28, Try.ntmps28
    go_wp2_with (first | (go_at_call 20; refine (rvalidC_at _ HS.out HN.out HV.out).mono ?_; rintro e w1 ⟨rfl, hb1⟩; have hB1 := HB.out.below hb1; have hC1 := HC.out.below hb1; have g4 := hC1.cell 0; have g2 := hC1.cell 1; have g3 := hC1.cell 2; simp at g2 g3 g4) | (go_at_call 56; refine (rat_off _ (HS.out.below hb1) HD.out hk1 hk2 HO.out).mono ?_; rintro e w2 ⟨ra, rb, rfl, hb2⟩; have hB2 := hB1.below hb2; have y0 := hB2.cell 0; have y1 := hB2.cell 1; have x0 := hB2.frozen 0; have x1 := hB2.frozen 1; simp at y0 y1 x0 x1; have hlt2 := hB2.lt; simp at hlt2))
    obtain ⟨r1, r2, r3⟩ := HR.out
    refine bodyPost_ret (v := .tuple #[.agg #[.int .i64 0, .int .i64 0], .int .i64 2]) (by simp [results, Try.results28, go_sem, y0, y1, hlt2]) rfl ⟨by rw [SpanRes, r1, r2, r3], ?_⟩
    have hb12 := below_next (below_next HW.out hb1) hb2
    exact ((hb12.setCell (by simp) _).setCell (by simp) _).alloc (by simp; have := hb12.size; omega) _

theorem rspan_any (o p k : Int) (A : Option Addr) (c : Nat) (l : List Sp) (w : World) (h : SpsR w A l) (hn : l.length ≤ maxLen) (hk1 : -9223372036854775808 ≤ k) (hk2 : k ≤ 9223372036854775807) :
    Calls Try.prog 28 #[.agg #[.int .i64 o, .int .i64 p, .slice A l.length c], .int .i64 k] w fun e w' => SpanRes e o p l k ∧ Below w.heap.size w w' := by
  cases hv : validB o p l with
  | false => exact rspan_inv o p k A c l w h hn hv
  | true => exact rspan_val o p k A c l w h hv hk1 hk2
end Go.Proofs.Ytnieceplfjmocaa
