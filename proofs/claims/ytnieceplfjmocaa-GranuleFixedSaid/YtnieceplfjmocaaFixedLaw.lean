/-
  The walk of GranuleFixed.
-/
import Derived.Test.YtnieceplfjmocaaFixed
namespace Go.Proofs.Ytnieceplfjmocaa
open Go.RowKit Go.BigFrame

attribute [local go_sem ↓] eql_span

theorem rvalid10_at {a b : Int} {v : Bool} (h : ivB a b = v) (w : World) :
    Calls Try.prog 24 #[.agg #[.int .i64 a, .int .i64 b]] w fun e w' => e = .returned (.bool v) ∧ Below w.heap.size w w' := rvalid_at h w
theorem gapless_at {o p : Int} {A : Option Addr} {c : Nat} {l : List Sp} {v : Bool} (w : World) (h : SpsR w A l) (hn : l.length ≤ maxLen) (hv : gapB o p l = v) :
    Calls Try.prog 21 #[.agg #[.int .i64 o, .int .i64 p, .slice A l.length c]] w fun e w' => e = .returned (.bool v) ∧ Below w.heap.size w w' := hv ▸ gapless_any o p A c l w h hn

set_option maxRecDepth 20000 in
set_option maxHeartbeats 8000000 in
theorem fixed_walk (o L k : Int) (w : World) :
    Calls Try.prog 5 #[.int .i64 o, .int .i64 L, .int .i64 k] w fun e w' => e = .returned (.bool true) ∧ Below w.heap.size w w' := by
  go_enter Try.func5, Try.ntmps5
  go_wp2_with (go_at_call 12; refine (awake_any _).mono ?_; rintro e w1 ⟨rfl, hb1⟩)
  refine (fixed_any o L _).mono ?_
  rintro e w2 ⟨⟨A2, c2, rfl, hs2, hl2, hm2, hf2⟩, hb2⟩
  have hW2 := below_next hb1 hb2
  have hD2 := (Blk.new w2 24 #[.int .i64 (ofRO o L [(0, L)]), .int .i64 (ofRP o L [(0, L)]), .slice A2 (ofRL o L [(0, L)]).length c2]).alloc (.cells #[.int .i64 0, .int .i64 L] 28)
  have hS2 := (hs2.alloc (.cells #[.int .i64 (ofRO o L [(0, L)]), .int .i64 (ofRP o L [(0, L)]), .slice A2 (ofRL o L [(0, L)]).length c2] 24)).alloc (.cells #[.int .i64 0, .int .i64 L] 28)
  have hW2' := (hW2.alloc hW2.size (.cells #[.int .i64 (ofRO o L [(0, L)]), .int .i64 (ofRP o L [(0, L)]), .slice A2 (ofRL o L [(0, L)]).length c2] 24)).alloc (by simp; have := hW2.size; omega) (.cells #[.int .i64 0, .int .i64 L] 28)
  have hO := one_sps ((w2.alloc (.cells #[.int .i64 (ofRO o L [(0, L)]), .int .i64 (ofRP o L [(0, L)]), .slice A2 (ofRL o L [(0, L)]).length c2] 24)).alloc (.cells #[.int .i64 0, .int .i64 L] 28)) (w2.heap.size + 1) 0 L (by simp [go_sem]) (by simp [go_sem])
  have D2 := Lib.hid hD2; have S2 := Lib.hid hS2; have W2 := Lib.hid hW2'; have O2 := Lib.hid hO
  clear hs2 hb1 hb2 hW2 hD2 hS2 hW2' hO hf2
  go_wp2_with fail
  refine (rof_any o L (some ⟨w2.heap.size + 1, 0, none⟩) 1 [(0, L)] _ O2.out (by simp [maxLen])).mono ?_
  rintro e w3 ⟨⟨A3, c3, rfl, hs3, hl3, hm3, hf3⟩, hb3⟩
  have hW3 := below_next W2.out hb3
  have hD3 := (D2.out.below hb3).alloc (.cells #[.int .i64 (ofRO o L [(0, L)]), .int .i64 (ofRP o L [(0, L)]), .slice A3 (ofRL o L [(0, L)]).length c3] 24)
  have hS3 := (S2.out.below hb3).alloc (.cells #[.int .i64 (ofRO o L [(0, L)]), .int .i64 (ofRP o L [(0, L)]), .slice A3 (ofRL o L [(0, L)]).length c3] 24)
  have hR3 := hs3.alloc (.cells #[.int .i64 (ofRO o L [(0, L)]), .int .i64 (ofRP o L [(0, L)]), .slice A3 (ofRL o L [(0, L)]).length c3] 24)
  have hW3' := hW3.alloc hW3.size (.cells #[.int .i64 (ofRO o L [(0, L)]), .int .i64 (ofRP o L [(0, L)]), .slice A3 (ofRL o L [(0, L)]).length c3] 24)
  have g0 := hD3.cell 0; have g1 := hD3.cell 1; have g2 := hD3.cell 2; simp at g0 g1 g2
  have hlt3 := hD3.lt
  simp at hlt3
  have D3 := Lib.hid hD3; have S3 := Lib.hid hS3; have W3 := Lib.hid hW3'; have R3 := Lib.hid hR3
  have HM2 := Lib.hid hm2
  clear hs3 hb3 hW3 hD3 hS3 hR3 hW3' hf3 hm2 hm3 D2 S2 W2 O2
  go_wp2_with fail
  refine (sameC_at _ S3.out R3.out hl2 HM2.out).mono ?_
  rintro e w4 ⟨rfl, hb4⟩
  have hD4 := D3.out.below hb4
  have hS4 := S3.out.below hb4
  have hW4 := below_next W3.out hb4
  clear g0 g1 g2 hlt3
  have g0 := hD4.cell 0; have g1 := hD4.cell 1; have g2 := hD4.cell 2; simp at g0 g1 g2
  have hlt4 := hD4.lt
  have D4 := Lib.hid hD4; have S4 := Lib.hid hS4; have W4 := Lib.hid hW4
  clear hb4 hD4 hS4 hW4 D3 S3 W3 R3
  by_cases he : ofErr o L [(0, L)] = 0
  · obtain ⟨r1, r2, r3, hv⟩ := fix_parts he
    have HV := Lib.hid hv
    have hp1 := hv.p1
    have hp2 := hv.p2
    have o1 := hv.o1
    have o2 := hv.o2
    by_cases k1 : k < -1000
    · have d1 : decide (k < -1000) = true := by simp; omega
      go_wp2
      go_ret
      exact ⟨rfl, W4.out⟩
    by_cases k2 : 1000 < k
    · have d1 : decide (k < -1000) = false := by simp; omega
      have d2 : decide (1000 < k) = true := by simp; omega
      go_wp2
      go_ret
      exact ⟨rfl, W4.out⟩
    by_cases k3 : 1073741824 < L
    · have d1 : decide (k < -1000) = false := by simp; omega
      have d2 : decide (1000 < k) = false := by simp; omega
      have d3 : decide (1073741824 < L) = true := by simp; omega
      go_wp2
      go_ret
      exact ⟨rfl, W4.out⟩
    have d1 : decide (k < -1000) = false := by simp; omega
    have d2 : decide (1000 < k) = false := by simp; omega
    have d3 : decide (1073741824 < L) = false := by simp; omega
    rw [r1] at g0
    rw [r2] at g1
    rw [r3] at g2
    rw [r1, r2, r3] at D4
    rw [r3] at S4
    rw [he, r1, r2, r3]
    have m1 : k * L ≤ 1000 * L := Int.mul_le_mul_of_nonneg_right (by omega) (by omega)
    have m2 : -1000 * L ≤ k * L := Int.mul_le_mul_of_nonneg_right (by omega) (by omega)
    have m3 : (k + 1) * L = k * L + L := by rw [Int.add_mul]; omega
    have m4 : (k + 1) * L ≤ 1100000000000 := by omega
    have m5 : -1100000000000 ≤ (k + 1) * L := by omega
    have m6 : k * L ≤ 1100000000000 := by omega
    have m7 : -1100000000000 ≤ k * L := by omega
    have HFS := Lib.hid (fix_span (k := k) hv)
    have HFG := Lib.hid (fix_gap hv)
    clear he r1 r2 r3 hv m1 m2 m3
    go_wp2_with fail
    refine (span_any o L k A2 c2 [(0, L)] _ S4.out (by simp [maxLen]) (by omega) (by omega)).mono ?_
    rintro e w5 ⟨hsr, hb5⟩
    rw [SpanRes] at hsr
    subst hsr
    have hD5 := (D4.out.below hb5).alloc (.cells #[.int .i64 (spanF o L [(0, L)] k), .int .i64 (spanT o L [(0, L)] k)] 28)
    have hE5 := Blk.new w5 28 #[.int .i64 (spanF o L [(0, L)] k), .int .i64 (spanT o L [(0, L)] k)]
    have hS5 := (S4.out.below hb5).alloc (.cells #[.int .i64 (spanF o L [(0, L)] k), .int .i64 (spanT o L [(0, L)] k)] 28)
    have hW5 := (below_next W4.out hb5).alloc (below_next W4.out hb5).size (.cells #[.int .i64 (spanF o L [(0, L)] k), .int .i64 (spanT o L [(0, L)] k)] 28)
    have D5 := Lib.hid hD5; have E5 := Lib.hid hE5; have S5 := Lib.hid hS5; have W5 := Lib.hid hW5
    clear g0 g1 g2 hlt4 D4 S4 W4 hb5 hD5 hE5 hS5 hW5
    cases hi : ivB (o + k * L) (o + (k + 1) * L) with
    | true =>
      have HI := Lib.hid hi
      have e1 : spanE o L [(0, L)] k = 0 := by rw [HFS.out.1, hi]; rfl
      have e2 := (HFS.out.2 hi).1
      have e3 := (HFS.out.2 hi).2
      rw [e1, e2, e3]
      rw [e2, e3] at D5
      rw [e2, e3] at E5
      rw [e2, e3] at S5
      rw [e2, e3] at W5
      clear e1 e2 e3 hi
      go_wp2_with fail
      refine (rvalid10_at HI.out _).mono ?_
      rintro e w6 ⟨rfl, hb6⟩
      have hD6 := D5.out.below hb6
      have hE6 := E5.out.below hb6
      have hS6 := S5.out.below hb6
      have hW6 := below_next W5.out hb6
      have g0 := hD6.cell 0; have g1 := hD6.cell 1; have g2 := hD6.cell 2; simp at g0 g1 g2
      have h0 := hE6.cell 0; have h1 := hE6.cell 1; simp at h0 h1
      have S6 := Lib.hid hS6; have W6 := Lib.hid hW6
      clear hD6 hE6 hS6 hW6 hb6 D5 E5 S5 W5
      go_wp2_with fail
      refine (gapless_at _ S6.out (by simp [maxLen]) HFG.out).mono ?_
      rintro e w7 ⟨rfl, hb7⟩
      go_wp2
      go_ret
      exact ⟨rfl, below_next W6.out hb7⟩
    | false =>
      have HI := Lib.hid hi
      have e1 : spanE o L [(0, L)] k = 2 := by rw [HFS.out.1, hi]; rfl
      rw [e1]
      clear e1 hi
      go_wp2_with fail
      refine (rvalid10_at HI.out _).mono ?_
      rintro e w6 ⟨rfl, hb6⟩
      have hD6 := D5.out.below hb6
      have hS6 := S5.out.below hb6
      have hW6 := below_next W5.out hb6
      have g0 := hD6.cell 0; have g1 := hD6.cell 1; have g2 := hD6.cell 2; simp at g0 g1 g2
      have S6 := Lib.hid hS6; have W6 := Lib.hid hW6
      clear hD6 hS6 hW6 hb6 D5 E5 S5 W5
      go_wp2_with fail
      refine (gapless_at _ S6.out (by simp [maxLen]) HFG.out).mono ?_
      rintro e w7 ⟨rfl, hb7⟩
      go_wp2
      go_ret
      exact ⟨rfl, below_next W6.out hb7⟩
  · have d0 : (ofErr o L [(0, L)] != 0) = true := by simpa using he
    clear he
    go_wp2
    go_ret
    exact ⟨rfl, W4.out⟩
end Go.Proofs.Ytnieceplfjmocaa
