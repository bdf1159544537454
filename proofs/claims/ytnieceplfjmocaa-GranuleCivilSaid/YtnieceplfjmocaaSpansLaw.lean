/-
  The walk of GranuleSpans: Span, Find and Near return what the reference returns.
-/
import Derived.Test.YtnieceplfjmocaaAwake
import Derived.Test.YtnieceplfjmocaaRFind
namespace Go.Proofs.Ytnieceplfjmocaa
open Go.RowKit Go.BigFrame

set_option maxHeartbeats 400000 in
theorem few_any (o p : Int) (A : Option Addr) (c : Nat) (l : List Sp) (w : World) (hn : l.length ≤ maxLen) :
    Calls Try.prog 25 #[.agg #[.int .i64 o, .int .i64 p, .slice A l.length c]] w fun e w' => e = .returned (.bool (decide (l.length ≤ 5001))) ∧ Below w.heap.size w w' := by
  unfold maxLen at hn
  go_enter Try.func25, Try.ntmps25
  go_wp2
  go_ret
  exact ⟨ret_bool (by rw [Bool.eq_iff_iff]; simp; omega), (Below.refl _ _).alloc (Nat.le_refl _) _⟩
theorem few_at {o p : Int} {A : Option Addr} {c : Nat} {l : List Sp} {v : Bool} (w : World) (hn : l.length ≤ maxLen) (hv : decide (l.length ≤ 5001) = v) :
    Calls Try.prog 25 #[.agg #[.int .i64 o, .int .i64 p, .slice A l.length c]] w fun e w' => e = .returned (.bool v) ∧ Below w.heap.size w w' := hv ▸ few_any o p A c l w hn

attribute [local go_sem ↓] eql_span

set_option maxRecDepth 20000 in
set_option maxHeartbeats 4000000 in
theorem spans_walk (o p k x : Int) (A : Option Addr) (c : Nat) (l : List Sp) (w : World) (h : SpsR w A l) (hn : l.length ≤ maxLen) (hk1 : -9223372036854775808 ≤ k) (hk2 : k ≤ 9223372036854775807) :
    Calls Try.prog 7 #[.agg #[.int .i64 o, .int .i64 p, .slice A l.length c], .int .i64 k, .int .i64 x] w fun e w' => e = .returned (.bool true) ∧ Below w.heap.size w w' := by
  have HN := Lib.hid hn
  have hW := (Below.refl w.heap.size w).alloc (Nat.le_refl _) (.cells #[.int .i64 o, .int .i64 p, .slice A l.length c] 24)
  have HC := Lib.hid (Blk.new w 24 #[.int .i64 o, .int .i64 p, .slice A l.length c])
  have HS := Lib.hid (h.below hW)
  have HW := Lib.hid hW
  clear h hW hn
  go_enter Try.func7, Try.ntmps7
  go_wp2_with fail
  refine (awake_any _).mono ?_
  rintro e w1 ⟨rfl, hb1⟩
  have hC1 := HC.out.below hb1
  have hS1 := HS.out.below hb1
  have hW1 := below_next HW.out hb1
  have g0 := hC1.cell 0; have g1 := hC1.cell 1; have g2 := hC1.cell 2; simp at g0 g1 g2
  have C1 := Lib.hid hC1; have S1 := Lib.hid hS1; have W1 := Lib.hid hW1
  clear HC HS HW hC1 hS1 hW1 hb1
  by_cases hf : l.length ≤ 5001
  · go_wp2_with fail
    refine (few_at _ HN.out (decide_eq_true hf)).mono ?_
    rintro e w2 ⟨rfl, hb2⟩
    have hC2 := C1.out.below hb2
    have hS2 := S1.out.below hb2
    have hW2 := below_next W1.out hb2
    clear g0 g1 g2
    have g0 := hC2.cell 0; have g1 := hC2.cell 1; have g2 := hC2.cell 2; simp at g0 g1 g2
    have C2 := Lib.hid hC2; have S2 := Lib.hid hS2; have W2 := Lib.hid hW2
    clear C1 S1 W1 hC2 hS2 hW2 hb2
    go_wp2_with fail
    refine (span_any o p k A c l _ S2.out HN.out hk1 hk2).mono ?_
    rintro e w3 ⟨he, hb3⟩
    rw [SpanRes] at he
    subst he
    have hD3 := Blk.new w3 28 #[.int .i64 (spanF o p l k), .int .i64 (spanT o p l k)]
    have hC3 := (C2.out.below hb3).alloc (.cells #[.int .i64 (spanF o p l k), .int .i64 (spanT o p l k)] 28)
    have hS3 := (S2.out.below hb3).alloc (.cells #[.int .i64 (spanF o p l k), .int .i64 (spanT o p l k)] 28)
    have hW3 := (below_next W2.out hb3).alloc (below_next W2.out hb3).size (.cells #[.int .i64 (spanF o p l k), .int .i64 (spanT o p l k)] 28)
    clear g0 g1 g2
    have g0 := hC3.cell 0; have g1 := hC3.cell 1; have g2 := hC3.cell 2; simp at g0 g1 g2
    have C3 := Lib.hid hC3; have S3 := Lib.hid hS3; have W3 := Lib.hid hW3; have D3 := Lib.hid hD3
    clear C2 S2 W2 hC3 hS3 hW3 hD3 hb3
    go_wp2_with fail
    refine (rspan_any o p k A c l _ S3.out HN.out hk1 hk2).mono ?_
    rintro e w4 ⟨he, hb4⟩
    rw [SpanRes] at he
    subst he
    have hE4 := Blk.new w4 28 #[.int .i64 (spanF o p l k), .int .i64 (spanT o p l k)]
    have hD4 := (D3.out.below hb4).alloc (.cells #[.int .i64 (spanF o p l k), .int .i64 (spanT o p l k)] 28)
    have hC4 := (C3.out.below hb4).alloc (.cells #[.int .i64 (spanF o p l k), .int .i64 (spanT o p l k)] 28)
    have hS4 := (S3.out.below hb4).alloc (.cells #[.int .i64 (spanF o p l k), .int .i64 (spanT o p l k)] 28)
    have hW4 := (below_next W3.out hb4).alloc (below_next W3.out hb4).size (.cells #[.int .i64 (spanF o p l k), .int .i64 (spanT o p l k)] 28)
    clear g0 g1 g2
    have g0 := hC4.cell 0; have g1 := hC4.cell 1; have g2 := hC4.cell 2; simp at g0 g1 g2
    have C4 := Lib.hid hC4; have S4 := Lib.hid hS4; have W4 := Lib.hid hW4; have D4 := Lib.hid hD4; have E4 := Lib.hid hE4
    clear C3 S3 W3 D3 hC4 hS4 hW4 hD4 hE4 hb4
    go_wp2_with fail
    refine (find_any o p x A c l _ S4.out HN.out).mono ?_
    rintro e w5 ⟨rfl, hb5⟩
    have hC5 := C4.out.below hb5
    have hD5 := D4.out.below hb5
    have hE5 := E4.out.below hb5
    have hS5 := S4.out.below hb5
    have hW5 := below_next W4.out hb5
    clear g0 g1 g2
    have g0 := hC5.cell 0; have g1 := hC5.cell 1; have g2 := hC5.cell 2; simp at g0 g1 g2
    have C5 := Lib.hid hC5; have S5 := Lib.hid hS5; have W5 := Lib.hid hW5; have D5 := Lib.hid hD5; have E5 := Lib.hid hE5
    clear C4 S4 W4 D4 E4 hC5 hS5 hW5 hD5 hE5 hb5
    go_wp2_with fail
    refine (rfind_any o p x A c l _ S5.out HN.out).mono ?_
    rintro e w6 ⟨rfl, hb6⟩
    have hC6 := C5.out.below hb6
    have hD6 := D5.out.below hb6
    have hE6 := E5.out.below hb6
    have hS6 := S5.out.below hb6
    have hW6 := below_next W5.out hb6
    clear C5 S5 W5 D5 E5 g0 g1 g2
    have C6 := Lib.hid hC6; have S6 := Lib.hid hS6; have W6 := Lib.hid hW6; have D6 := Lib.hid hD6; have E6 := Lib.hid hE6
    clear hC6 hS6 hW6 hD6 hE6 hb6
    go_wp2_with fail
    refine wp_region_below (by kernel_rfl) (by kernel_rfl) ?_
    intro W hW
    subst hW
    have q0 : ∀ z : Bw W, z.1.cell? ⟨w.heap.size, 0, none⟩ = some (.int .i64 o) := fun z => z.cell (C6.out.cell 0)
    have q1 : ∀ z : Bw W, z.1.cell? ⟨w.heap.size, 1, none⟩ = some (.int .i64 p) := fun z => z.cell (C6.out.cell 1)
    have q2 : ∀ z : Bw W, z.1.cell? ⟨w.heap.size, 2, none⟩ = some (.slice A l.length c) := fun z => z.cell (C6.out.cell 2)
    have q3 : ∀ z : Bw W, z.1.cell? ⟨w3.heap.size, 0, none⟩ = some (.int .i64 (spanF o p l k)) := fun z => z.cell (D6.out.cell 0)
    have q4 : ∀ z : Bw W, z.1.cell? ⟨w3.heap.size, 1, none⟩ = some (.int .i64 (spanT o p l k)) := fun z => z.cell (D6.out.cell 1)
    have q5 : ∀ z : Bw W, z.1.cell? ⟨w4.heap.size, 0, none⟩ = some (.int .i64 (spanF o p l k)) := fun z => z.cell (E6.out.cell 0)
    have q6 : ∀ z : Bw W, z.1.cell? ⟨w4.heap.size, 1, none⟩ = some (.int .i64 (spanT o p l k)) := fun z => z.cell (E6.out.cell 1)
    have QS := Lib.hid (fun z : Bw W => S6.out.below z.2)
    repeat (go_big_quiet_step ((first | (go_at_call 31; exact quiet_b (near_any o p x A c l _ (QS.out _) HN.out)) | (go_at_call 32; exact quiet_b (rnear_any o p x A c l _ (QS.out _) HN.out)))))
    refine wpQuiet_nil ?_
    rintro wq ⟨⟨_, hq⟩, rfl⟩
    have hbq := below_next W6.out hq
    clear q0 q1 q2 q3 q4 q5 q6
    go_wp2
    go_ret
    exact ⟨rfl, hbq⟩
  · go_wp2_with fail
    refine (few_at _ HN.out (decide_eq_false hf)).mono ?_
    rintro e w2 ⟨rfl, hb2⟩
    go_wp2
    go_ret
    exact ⟨rfl, below_next W1.out hb2⟩
end Go.Proofs.Ytnieceplfjmocaa
