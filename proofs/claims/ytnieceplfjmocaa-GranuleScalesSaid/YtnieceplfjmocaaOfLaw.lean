/-
  The walk of GranuleOf.
-/
import Derived.Test.YtnieceplfjmocaaAwake
import Derived.Test.YtnieceplfjmocaaOfAny
import Derived.Test.YtnieceplfjmocaaSame
namespace Go.Proofs.Ytnieceplfjmocaa
open Go.RowKit Go.BigFrame

theorem sameC_at {o p : Int} {A A' : Option Addr} {c c' : Nat} {l : List Sp} (w : World) (h : SpsR w A l) (h' : SpsR w A' l) (hn : l.length ≤ c) (hc : c ≤ maxLen) :
    Calls Try.prog 19 #[.agg #[.int .i64 o, .int .i64 p, .slice A l.length c], .agg #[.int .i64 o, .int .i64 p, .slice A' l.length c']] w fun e w' => e = .returned (.bool true) ∧ Below w.heap.size w w' :=
  same_eq o p A A' c c' l w h h' (Nat.le_trans hn hc)

set_option maxRecDepth 20000 in
set_option maxHeartbeats 4000000 in
theorem of_walk (o p : Int) (A : Option Addr) (c : Nat) (l : List Sp) (w : World) (h : SpsR w A l) (hn : l.length ≤ maxLen) :
    Calls Try.prog 4 #[.int .i64 o, .int .i64 p, .slice A l.length c] w fun e w' => e = .returned (.bool true) ∧ Below w.heap.size w w' := by
  have HN := Lib.hid hn
  have HS := Lib.hid h
  unfold maxLen at hn
  clear h
  by_cases hf : 5001 < l.length
  · have d1 : decide (5001 < (l.length : Int)) = true := by simp; omega
    go_enter Try.func4, Try.ntmps4
    go_wp2_with (go_at_call 12; refine (awake_any _).mono ?_; rintro e w1 ⟨rfl, hb1⟩)
    go_ret
    exact ⟨rfl, hb1⟩
  · have d1 : decide (5001 < (l.length : Int)) = false := by simp; omega
    go_enter Try.func4, Try.ntmps4
    go_wp2_with (go_at_call 12; refine (awake_any _).mono ?_; rintro e w1 ⟨rfl, hb1⟩)
    refine (of_any o p A c l _ (HS.out.below hb1) HN.out).mono ?_
    rintro e w2 ⟨⟨A2, c2, rfl, hs2, hl2, hm2, hf2⟩, hb2⟩
    have hW2 := below_next hb1 hb2
    have hD2 := Blk.new w2 24 #[.int .i64 (ofRO o p l), .int .i64 (ofRP o p l), .slice A2 (ofRL o p l).length c2]
    have hS2 := hs2.alloc (.cells #[.int .i64 (ofRO o p l), .int .i64 (ofRP o p l), .slice A2 (ofRL o p l).length c2] 24)
    have hT2 := (HS.out.below hW2).alloc (.cells #[.int .i64 (ofRO o p l), .int .i64 (ofRP o p l), .slice A2 (ofRL o p l).length c2] 24)
    have hW2' := hW2.alloc hW2.size (.cells #[.int .i64 (ofRO o p l), .int .i64 (ofRP o p l), .slice A2 (ofRL o p l).length c2] 24)
    have D2 := Lib.hid hD2; have S2 := Lib.hid hS2; have T2 := Lib.hid hT2; have W2 := Lib.hid hW2'
    clear hs2 hb1 hb2 hW2 hD2 hS2 hT2 hW2' hf2
    go_wp2_with fail
    refine (rof_any o p A c l _ T2.out HN.out).mono ?_
    rintro e w3 ⟨⟨A3, c3, rfl, hs3, hl3, hm3, hf3⟩, hb3⟩
    have hD3 := (D2.out.below hb3).alloc (.cells #[.int .i64 (ofRO o p l), .int .i64 (ofRP o p l), .slice A3 (ofRL o p l).length c3] 24)
    have hE3 := Blk.new w3 24 #[.int .i64 (ofRO o p l), .int .i64 (ofRP o p l), .slice A3 (ofRL o p l).length c3]
    have hS3 := (S2.out.below hb3).alloc (.cells #[.int .i64 (ofRO o p l), .int .i64 (ofRP o p l), .slice A3 (ofRL o p l).length c3] 24)
    have hR3 := hs3.alloc (.cells #[.int .i64 (ofRO o p l), .int .i64 (ofRP o p l), .slice A3 (ofRL o p l).length c3] 24)
    have hT3 := (T2.out.below hb3).alloc (.cells #[.int .i64 (ofRO o p l), .int .i64 (ofRP o p l), .slice A3 (ofRL o p l).length c3] 24)
    have hW3 := (below_next W2.out hb3).alloc (below_next W2.out hb3).size (.cells #[.int .i64 (ofRO o p l), .int .i64 (ofRP o p l), .slice A3 (ofRL o p l).length c3] 24)
    have D3 := Lib.hid hD3; have S3 := Lib.hid hS3; have T3 := Lib.hid hT3; have W3 := Lib.hid hW3; have E3 := Lib.hid hE3; have R3 := Lib.hid hR3
    clear hs3 hb3 hD3 hS3 hT3 hW3 hf3 hE3 hR3 D2 S2 T2 W2
    go_wp2_with fail
    refine wp_region_below (by kernel_rfl) (by kernel_rfl) ?_
    intro W hW
    have hW4 : Below w.heap.size w W := by rw [hW]; exact W3.out.alloc W3.out.size _
    have hD4 : Blk W w2.heap.size 24 #[.int .i64 (ofRO o p l), .int .i64 (ofRP o p l), .slice A2 (ofRL o p l).length c2] := by rw [hW]; exact D3.out.alloc _
    have hE4 : Blk W w3.heap.size 24 #[.int .i64 (ofRO o p l), .int .i64 (ofRP o p l), .slice A3 (ofRL o p l).length c3] := by rw [hW]; exact E3.out.alloc _
    have hF4 : Blk W (w3.heap.size + 1) 24 #[.int .i64 o, .int .i64 p, .slice A l.length c] := by
      rw [hW]
      have := Blk.new (w3.alloc (.cells #[.int .i64 (ofRO o p l), .int .i64 (ofRP o p l), .slice A3 (ofRL o p l).length c3] 24)) 24 #[.int .i64 o, .int .i64 p, .slice A l.length c]
      simpa using this
    have hS4 : SpsR W A2 (ofRL o p l) := by rw [hW]; exact S3.out.alloc _
    have hR4 : SpsR W A3 (ofRL o p l) := by rw [hW]; exact R3.out.alloc _
    have hT4 : SpsR W A l := by rw [hW]; exact T3.out.alloc _
    have a0 : ∀ z : Bw W, z.1.cell? ⟨w2.heap.size, 0, none⟩ = some (.int .i64 (ofRO o p l)) := fun z => z.cell (hD4.cell 0)
    have a1 : ∀ z : Bw W, z.1.cell? ⟨w2.heap.size, 1, none⟩ = some (.int .i64 (ofRP o p l)) := fun z => z.cell (hD4.cell 1)
    have a2 : ∀ z : Bw W, z.1.cell? ⟨w2.heap.size, 2, none⟩ = some (.slice A2 (ofRL o p l).length c2) := fun z => z.cell (hD4.cell 2)
    have a3 : ∀ z : Bw W, z.1.cell? ⟨w3.heap.size, 0, none⟩ = some (.int .i64 (ofRO o p l)) := fun z => z.cell (hE4.cell 0)
    have a4 : ∀ z : Bw W, z.1.cell? ⟨w3.heap.size, 1, none⟩ = some (.int .i64 (ofRP o p l)) := fun z => z.cell (hE4.cell 1)
    have a5 : ∀ z : Bw W, z.1.cell? ⟨w3.heap.size, 2, none⟩ = some (.slice A3 (ofRL o p l).length c3) := fun z => z.cell (hE4.cell 2)
    have a6 : ∀ z : Bw W, z.1.cell? ⟨w3.heap.size + 1, 0, none⟩ = some (.int .i64 o) := fun z => z.cell (hF4.cell 0)
    have a7 : ∀ z : Bw W, z.1.cell? ⟨w3.heap.size + 1, 1, none⟩ = some (.int .i64 p) := fun z => z.cell (hF4.cell 1)
    have a8 : ∀ z : Bw W, z.1.cell? ⟨w3.heap.size + 1, 2, none⟩ = some (.slice A l.length c) := fun z => z.cell (hF4.cell 2)
    have QA := Lib.hid (fun z : Bw W => hS4.below z.2)
    have QB := Lib.hid (fun z : Bw W => hR4.below z.2)
    have QC := Lib.hid (fun z : Bw W => hT4.below z.2)
    have HWW := Lib.hid hW4
    have HM2 := Lib.hid hm2
    have n1 : (ofErr o p l == ofErr o p l) = true := by simp
    clear hW hW4 hD4 hE4 hF4 hS4 hR4 hT4 D3 S3 T3 W3 E3 R3 hm2 hm3
    repeat (go_big_quiet_step ((first | (go_at_call 19; exact quiet_b (sameC_at _ (QA.out _) (QB.out _) hl2 HM2.out)) | (go_at_call 13; exact quiet_b (validC_any o p A c l _ (QC.out _) HN.out)) | (go_at_call 20; exact quiet_b (rvalidC_any o p A c l _ (QC.out _) HN.out)) | (go_at_call 21; exact quiet_b (gapless_any o p A c l _ (QC.out _) HN.out)) | (go_at_call 22; exact quiet_b (rgapless_any o p A c l _ (QC.out _) HN.out)))))
    refine wpQuiet_nil ?_
    rintro wq ⟨⟨_, hq⟩, rfl⟩
    have hbq := below_next HWW.out hq
    clear a0 a1 a2 a3 a4 a5 a6 a7 a8
    go_wp2
    go_ret
    exact ⟨rfl, hbq⟩
end Go.Proofs.Ytnieceplfjmocaa
