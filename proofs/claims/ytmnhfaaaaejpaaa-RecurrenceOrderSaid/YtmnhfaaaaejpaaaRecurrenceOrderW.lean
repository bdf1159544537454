/-
  The code does what its models say (printed by lift.py).
  The code does what its models say (printed by lift.py).
  The walk of RecurrenceOrder, as the row takes it.
-/
import Derived.Test.YtmnhfaaaaejpaaaOrM
import Derived.Test.YtmnhfaaaaejpaaaRecurrenceCandidatesW
import Derived.Test.YtmnhfaaaaejpaaaSrtO
import Derived.Test.YtmnhfaaaaejpaaaArr
import Derived.Test.YtmnhfaaaaejpaaaOA
namespace Go.Proofs.Ytmnhfaaaaejpaaa.R
open Go.RowKit Go.Proofs.Ytmnhfaaaaejpaaa
set_option maxRecDepth 100000

set_option maxHeartbeats 40000000 in
theorem fn_law29_RecurrenceOrder_1 {O0 : Ops} (hO0 : O0 = std) {l_1 : List Int} {r1 : List Int} (h : m_law29_RecurrenceOrder_1 O0 l_1 = some r1) :
    Fn Try.prog 10 [.c (.sl 0)] [.arr false .i1 l_1] (fun v c => v = .c (.sl 1) ∧ c = [.own 3 .i1 r1]) := by
  refine fn_run tab_holds eqs_holds mixed [] Try.func10 (by kernel_rfl) (by kernel_rfl) (Nat.le_of_ble_eq_true rfl) ?_
  intro O X hO hX
  rw [hO0, ← hO] at h
  unfold m_law29_RecurrenceOrder_1 at h
  have h0 := h; clear h
  cbv
  obtain ⟨l28, hv, h0⟩ := bindS h0
  refine call_is hO hX (fn_clone_i1 hO hv) (by kernel_rfl) [0] rfl ⟨rfl, rfl, trivial⟩ rfl ?_
  cbv
  obtain ⟨hg1, h0⟩ := grdS h0
  refine ⟨room_of hO hg1, ?_⟩
  obtain ⟨hg2, h0⟩ := grdS h0
  refine ⟨room_of hO hg2, ?_⟩
  refine call_inline tab_holds eqs_holds mixed [(3, (.seg 1 [0, 1] (.seg 0 [2, 3] (.seg 1 [4, 5, 6, 7, 8, 9, 10, 11, 12] .fin))), [13, 14, 15])] hO hX (by kernel_rfl) Try.func12 (by kernel_rfl) (by kernel_rfl) rfl ?_
  intro X1 hX1 hF1
  cbv
  obtain ⟨hg3, h0⟩ := grdS h0
  refine ⟨inr_of hO hg3, ?_⟩
  obtain ⟨l30, hi, h0⟩ := bindS h0
  obtain ⟨I1, hI1, hi⟩ := loopS hi
  refine loop1 tab_holds eqs_holds mixed [(3, (.seg 1 [0, 1] (.seg 0 [2, 3] (.seg 1 [4, 5, 6, 7, 8, 9, 10, 11, 12] .fin))), [13, 14, 15])] hO hX1 I1 (fun y => [(2, .c (.int .i64 y.2.1)), (3, .c (.int .i64 y.2.2.1))]) (fun y => [(3, .own 3 .i1 y.2.2.2)]) (fun y => y.1) _ (by kernel_rfl) hi (by cbv; try simp) ?_
  refine allp ?_
  intro n1
  refine allp ?_
  intro i2
  refine allp ?_
  intro j2
  intro l29 hi
  cbv
  rw [hI1] at hi
  obtain ⟨n1, rfl, x1, h1, hi1⟩ := iterS hi
  unfold m_law29_RecurrenceOrder_1_L1 at h1
  try dsimp only at h1
  rcases condS h1 with ⟨hc4, h1⟩ | ⟨hc4, h1⟩
  · rw [hc4]
    cbv
    obtain ⟨hg5, h1⟩ := grdS h1
    refine ⟨idx_of hO hg5, ?_⟩
    obtain ⟨hg6, h1⟩ := grdS h1
    refine ⟨kin_of hO hg6, ?_⟩
    obtain ⟨hg7, h1⟩ := grdS h1
    refine ⟨idx_of hO hg7, ?_⟩
    obtain ⟨hg8, h1⟩ := grdS h1
    refine ⟨kin_of hO hg8, ?_⟩
    refine ⟨idx_of hO hg7, ?_⟩
    refine ⟨kin_of hO hg8, ?_⟩
    obtain ⟨hg9, h1⟩ := grdS h1
    refine ⟨idx_of hO hg9, ?_⟩
    obtain ⟨hg10, h1⟩ := grdS h1
    refine ⟨kin_of hO hg10, ?_⟩
    obtain ⟨hg11, h1⟩ := grdS h1
    refine ⟨inr_of hO hg11, ?_⟩
    obtain ⟨hg12, h1⟩ := grdS h1
    refine ⟨inr_of hO hg12, ?_⟩
    cases h1
    exact ⟨_, [0, 1, 2, 3], nextI hI1 hi1, by cbv; try simp, by first | exact Nat.lt_succ_self _ | omega⟩
  · rw [hc4]
    cbv
    cases h1
    cases exitI hi1
    try dsimp only at h0
    refine hF1 _ _ ?_
    cbv
    cases h0
    exact fin_ok hX rfl ⟨[3], _, _, ⟨rfl, rfl⟩, rfl, rfl, rfl, rfl, by cbv; try simp⟩
set_option maxHeartbeats 40000000 in
theorem fn_recurrence_Canonical {O0 : Ops} (hO0 : O0 = std) {r_1 : Int} {r_2 : Int} {r_3 : Int} {r_4 : Int} {r_5 : Int} {r_6 : List Int} {r_7 : List Int} {r_8 : List Int} {r_9 : List Int} {r_10 : List (Int × Int)} {r_11 : List Int} {r_12 : List Int} {r_13 : List Int} {r_14 : List Int} {r1 : Int} {r2 : Int} {r3 : Int} {r4 : Int} {r5 : List Int} {r6 : List Int} {r7 : List Int} {r8 : List Int} {r9 : List (Int × Int)} {r10 : List Int} {r11 : List Int} {r12 : List Int} {r13 : List Int} {r14 : Int} {r15 : Int} (h : m_recurrence_Canonical O0 r_1 r_2 r_3 r_4 r_5 r_6 r_7 r_8 r_9 r_10 r_11 r_12 r_13 r_14 = some (r1, r2, r3, r4, r5, r6, r7, r8, r9, r10, r11, r12, r13, r14, r15)) :
    Fn Try.prog 39 [.agg [.int .i64 r_1, .int .i64 r_2, .int .i64 r_3, .int .i64 r_4, .sl 0, .sl 1, .sl 2, .sl 3, .sl 4, .sl 5, .sl 6, .sl 7, .sl 8, .int .i64 r_5]] [.arr false .i1 r_6, .arr false .i1 r_7, .arr false .i1 r_8, .arr false .i1 r_9, .arr false .i2 r_10, .arr false .i1 r_11, .arr false .i1 r_12, .arr false .i1 r_13, .arr false .i1 r_14] (fun v c => v = .tup [.many [.int .i64 r1, .int .i64 r2, .int .i64 r3, .int .i64 r4, .sl 9, .sl 10, .sl 11, .sl 12, .sl 13, .sl 14, .sl 15, .sl 16, .sl 17, .int .i64 r14], .one (.int .i64 r15)] ∧ c = [.arr true .i1 r5, .arr true .i1 r6, .arr true .i1 r7, .arr true .i1 r8, .arr true .i2 r9, .arr true .i1 r10, .arr true .i1 r11, .arr true .i1 r12, .arr true .i1 r13]) := by
  refine fn_run tab_holds eqs_holds mixed [] Try.func39 (by kernel_rfl) (by kernel_rfl) (Nat.le_of_ble_eq_true rfl) ?_
  intro O X hO hX
  rw [hO0, ← hO] at h
  unfold m_recurrence_Canonical at h
  have h0 := h; clear h
  cbv
  obtain ⟨b43, hv, h0⟩ := bindS h0
  refine call_is hO hX (fn_recurrence_Valid hO hv) (by kernel_rfl) [0, 1, 2, 3, 4, 5, 6, 7, 8] rfl ⟨rfl, rfl, rfl, rfl, rfl, rfl, rfl, rfl, rfl, rfl, rfl, rfl, rfl, rfl, rfl, rfl, rfl, rfl, trivial⟩ rfl ?_
  cbv
  rcases condS h0 with ⟨hc1, h0⟩ | ⟨hc1, h0⟩
  · rw [hc1]
    cbv
    cases h0
    refine fin_nil hX .i1 11 rfl ?_
    cbv
    refine fin_nil hX .i1 12 rfl ?_
    cbv
    refine fin_nil hX .i1 13 rfl ?_
    cbv
    refine fin_nil hX .i1 14 rfl ?_
    cbv
    refine fin_nil hX .i2 15 rfl ?_
    cbv
    refine fin_nil hX .i1 16 rfl ?_
    cbv
    refine fin_nil hX .i1 17 rfl ?_
    cbv
    refine fin_nil hX .i1 18 rfl ?_
    cbv
    refine fin_nil hX .i1 19 rfl ?_
    cbv
    exact fin_ok hX rfl ⟨[11, 12, 13, 14, 15, 16, 17, 18, 19], _, _, ⟨rfl, rfl⟩, rfl, rfl, rfl, rfl, by cbv; try simp⟩
  · rw [hc1]
    cbv
    refine loop_unroll tab_holds eqs_holds mixed [] hO hX 9 (by kernel_rfl) ?_
    cbv
    rw [show (O .lt 0 (Int.ofNat 8)) = true from by subst hO; rfl]
    cbv
    obtain ⟨l42, hv, h0⟩ := bindS h0
    refine call_is hO hX (fn_recurrence_set hO hv) (by kernel_rfl) [0] rfl ⟨rfl, rfl, trivial⟩ rfl ?_
    cbv
    obtain ⟨hg2, h0⟩ := grdS h0
    refine ⟨inr_of hO hg2, ?_⟩
    try (rw [show (O .add 0 1) = 1 from by subst hO; rfl]; try cbv)
    try (rw [show (O .add 0 1) = 1 from by subst hO; rfl]; try cbv)
    rw [show (O .lt 1 (Int.ofNat 8)) = true from by subst hO; rfl]
    cbv
    obtain ⟨l43, hv, h0⟩ := bindS h0
    refine call_is hO hX (fn_recurrence_set hO hv) (by kernel_rfl) [1] rfl ⟨rfl, rfl, trivial⟩ rfl ?_
    cbv
    obtain ⟨hg3, h0⟩ := grdS h0
    refine ⟨inr_of hO hg3, ?_⟩
    try (rw [show (O .add 1 1) = 2 from by subst hO; rfl]; try cbv)
    try (rw [show (O .add 1 1) = 2 from by subst hO; rfl]; try cbv)
    rw [show (O .lt 2 (Int.ofNat 8)) = true from by subst hO; rfl]
    cbv
    obtain ⟨l44, hv, h0⟩ := bindS h0
    refine call_is hO hX (fn_recurrence_set hO hv) (by kernel_rfl) [2] rfl ⟨rfl, rfl, trivial⟩ rfl ?_
    cbv
    obtain ⟨hg4, h0⟩ := grdS h0
    refine ⟨inr_of hO hg4, ?_⟩
    try (rw [show (O .add 2 1) = 3 from by subst hO; rfl]; try cbv)
    try (rw [show (O .add 2 1) = 3 from by subst hO; rfl]; try cbv)
    rw [show (O .lt 3 (Int.ofNat 8)) = true from by subst hO; rfl]
    cbv
    obtain ⟨l45, hv, h0⟩ := bindS h0
    refine call_is hO hX (fn_recurrence_set hO hv) (by kernel_rfl) [3] rfl ⟨rfl, rfl, trivial⟩ rfl ?_
    cbv
    obtain ⟨hg5, h0⟩ := grdS h0
    refine ⟨inr_of hO hg5, ?_⟩
    try (rw [show (O .add 3 1) = 4 from by subst hO; rfl]; try cbv)
    try (rw [show (O .add 3 1) = 4 from by subst hO; rfl]; try cbv)
    rw [show (O .lt 4 (Int.ofNat 8)) = true from by subst hO; rfl]
    cbv
    obtain ⟨l46, hv, h0⟩ := bindS h0
    refine call_is hO hX (fn_recurrence_set hO hv) (by kernel_rfl) [5] rfl ⟨rfl, rfl, trivial⟩ rfl ?_
    cbv
    obtain ⟨hg6, h0⟩ := grdS h0
    refine ⟨inr_of hO hg6, ?_⟩
    try (rw [show (O .add 4 1) = 5 from by subst hO; rfl]; try cbv)
    try (rw [show (O .add 4 1) = 5 from by subst hO; rfl]; try cbv)
    rw [show (O .lt 5 (Int.ofNat 8)) = true from by subst hO; rfl]
    cbv
    obtain ⟨l47, hv, h0⟩ := bindS h0
    refine call_is hO hX (fn_recurrence_set hO hv) (by kernel_rfl) [6] rfl ⟨rfl, rfl, trivial⟩ rfl ?_
    cbv
    obtain ⟨hg7, h0⟩ := grdS h0
    refine ⟨inr_of hO hg7, ?_⟩
    try (rw [show (O .add 5 1) = 6 from by subst hO; rfl]; try cbv)
    try (rw [show (O .add 5 1) = 6 from by subst hO; rfl]; try cbv)
    rw [show (O .lt 6 (Int.ofNat 8)) = true from by subst hO; rfl]
    cbv
    obtain ⟨l48, hv, h0⟩ := bindS h0
    refine call_is hO hX (fn_recurrence_set hO hv) (by kernel_rfl) [7] rfl ⟨rfl, rfl, trivial⟩ rfl ?_
    cbv
    obtain ⟨hg8, h0⟩ := grdS h0
    refine ⟨inr_of hO hg8, ?_⟩
    try (rw [show (O .add 6 1) = 7 from by subst hO; rfl]; try cbv)
    try (rw [show (O .add 6 1) = 7 from by subst hO; rfl]; try cbv)
    rw [show (O .lt 7 (Int.ofNat 8)) = true from by subst hO; rfl]
    cbv
    obtain ⟨l49, hv, h0⟩ := bindS h0
    refine call_is hO hX (fn_recurrence_set hO hv) (by kernel_rfl) [8] rfl ⟨rfl, rfl, trivial⟩ rfl ?_
    cbv
    obtain ⟨hg9, h0⟩ := grdS h0
    refine ⟨inr_of hO hg9, ?_⟩
    try (rw [show (O .add 7 1) = 8 from by subst hO; rfl]; try cbv)
    try (rw [show (O .add 7 1) = 8 from by subst hO; rfl]; try cbv)
    rw [show (O .lt 8 (Int.ofNat 8)) = false from by subst hO; rfl]
    cbv
    obtain ⟨l50, hv, h0⟩ := bindS h0
    refine call_is hO hX (fn_clone_i2 hO hv) (by kernel_rfl) [4] rfl ⟨rfl, rfl, trivial⟩ rfl ?_
    cbv
    obtain ⟨l51, hv, h0⟩ := bindS h0
    refine srt_ord hO hX (i := 20) rfl hv ?_
    cbv
    obtain ⟨l52, hv, h0⟩ := bindS h0
    refine cpt_ord hO hX (i := 20) rfl hv ?_
    cbv
    cases h0
    refine fin_frz hX 12 ?_
    cbv
    refine fin_frz hX 13 ?_
    cbv
    refine fin_frz hX 14 ?_
    cbv
    refine fin_frz hX 15 ?_
    cbv
    refine fin_frz hX 21 ?_
    cbv
    refine fin_frz hX 16 ?_
    cbv
    refine fin_frz hX 17 ?_
    cbv
    refine fin_frz hX 18 ?_
    cbv
    refine fin_frz hX 19 ?_
    cbv
    exact fin_ok hX rfl ⟨[12, 13, 14, 15, 21, 16, 17, 18, 19], _, _, ⟨rfl, rfl⟩, rfl, rfl, rfl, rfl, by cbv; try simp⟩
set_option maxHeartbeats 40000000 in
theorem fn_slices_Equal {O0 : Ops} (hO0 : O0 = std) {s1_1 : List (Int × Int)} {s2_1 : List (Int × Int)} {r1 : Bool} (h : m_slices_Equal O0 s1_1 s2_1 = some r1) :
    Fn Try.prog 40 [.c (.sl 0), .c (.sl 1)] [.arr false .i2 s1_1, .arr false .i2 s2_1] (fun v c => v = .c (.bool r1) ∧ c = []) := by
  refine fn_run tab_holds eqs_holds mixed [(6, (.seg 1 [0, 1, 2, 3, 4, 5, 6, 7, 8] .fin), [])] Try.func40 (by kernel_rfl) (by kernel_rfl) (Nat.le_of_ble_eq_true rfl) ?_
  intro O X hO hX
  rw [hO0, ← hO] at h
  unfold m_slices_Equal at h
  have h0 := h; clear h
  cbv
  rcases condS h0 with ⟨hc1, h0⟩ | ⟨hc1, h0⟩
  · rw [hc1]
    cbv
    cases h0
    exact fin_ok hX rfl ⟨[], _, _, ⟨rfl, rfl⟩, rfl, rfl, rfl, rfl, by cbv; try simp⟩
  · rw [hc1]
    cbv
    obtain ⟨e1, hi, h0⟩ := bindS h0
    obtain ⟨I1, hI1, hi⟩ := loopS hi
    refine loop1 tab_holds eqs_holds mixed [(6, (.seg 1 [0, 1, 2, 3, 4, 5, 6, 7, 8] .fin), [])] hO hX I1 (fun y => [(13, .c (.int .i64 y.2))]) (fun _ => []) (fun y => y.1) _ (by kernel_rfl) hi (by cbv; try simp) ?_
    refine allp ?_
    intro n1
    intro x133 hi
    cbv
    rw [hI1] at hi
    obtain ⟨n1, rfl, x1, h1, hi1⟩ := iterS hi
    unfold m_slices_Equal_L1 at h1
    try dsimp only at h1
    rcases condS h1 with ⟨hc2, h1⟩ | ⟨hc2, h1⟩
    · rw [hc2]
      cbv
      obtain ⟨hg3, h1⟩ := grdS h1
      refine ⟨idx_of hO hg3, ?_⟩
      obtain ⟨hg4, h1⟩ := grdS h1
      refine ⟨kin_of hO hg4, ?_⟩
      obtain ⟨hg5, h1⟩ := grdS h1
      refine ⟨idx_of hO hg5, ?_⟩
      obtain ⟨hg6, h1⟩ := grdS h1
      refine ⟨kin_of hO hg6, ?_⟩
      rcases condS h1 with ⟨hc7, h1⟩ | ⟨hc7, h1⟩
      · rw [hc7]
        cbv
        cases h1
        cases exitI hi1
        try dsimp only at h0
        cases h0
        exact fin_ok hX rfl ⟨[], _, _, ⟨rfl, rfl⟩, rfl, rfl, rfl, rfl, by cbv; try simp⟩
      · rw [hc7]
        cbv
        obtain ⟨hg8, h1⟩ := grdS h1
        refine ⟨inr_of hO hg8, ?_⟩
        cases h1
        exact ⟨_, [0, 1], nextI hI1 hi1, by cbv; try simp, by first | exact Nat.lt_succ_self _ | omega⟩
    · rw [hc2]
      cbv
      cases h1
      cases exitI hi1
      try dsimp only at h0
      cases h0
      exact fin_ok hX rfl ⟨[], _, _, ⟨rfl, rfl⟩, rfl, rfl, rfl, rfl, by cbv; try simp⟩
set_option maxHeartbeats 40000000 in
theorem fn_slices_Equal_2 {O0 : Ops} (hO0 : O0 = std) {s1_1 : List Int} {s2_1 : List Int} {r1 : Bool} (h : m_slices_Equal_2 O0 s1_1 s2_1 = some r1) :
    Fn Try.prog 44 [.c (.sl 0), .c (.sl 1)] [.arr false .i1 s1_1, .arr false .i1 s2_1] (fun v c => v = .c (.bool r1) ∧ c = []) := by
  refine fn_run tab_holds eqs_holds mixed [(6, (.seg 1 [0, 1, 2, 3, 4, 5, 6, 7, 8] .fin), [])] Try.func44 (by kernel_rfl) (by kernel_rfl) (Nat.le_of_ble_eq_true rfl) ?_
  intro O X hO hX
  rw [hO0, ← hO] at h
  unfold m_slices_Equal_2 at h
  have h0 := h; clear h
  cbv
  rcases condS h0 with ⟨hc1, h0⟩ | ⟨hc1, h0⟩
  · rw [hc1]
    cbv
    cases h0
    exact fin_ok hX rfl ⟨[], _, _, ⟨rfl, rfl⟩, rfl, rfl, rfl, rfl, by cbv; try simp⟩
  · rw [hc1]
    cbv
    obtain ⟨e1, hi, h0⟩ := bindS h0
    obtain ⟨I1, hI1, hi⟩ := loopS hi
    refine loop1 tab_holds eqs_holds mixed [(6, (.seg 1 [0, 1, 2, 3, 4, 5, 6, 7, 8] .fin), [])] hO hX I1 (fun y => [(13, .c (.int .i64 y.2))]) (fun _ => []) (fun y => y.1) _ (by kernel_rfl) hi (by cbv; try simp) ?_
    refine allp ?_
    intro n1
    intro x136 hi
    cbv
    rw [hI1] at hi
    obtain ⟨n1, rfl, x1, h1, hi1⟩ := iterS hi
    unfold m_slices_Equal_2_L1 at h1
    try dsimp only at h1
    rcases condS h1 with ⟨hc2, h1⟩ | ⟨hc2, h1⟩
    · rw [hc2]
      cbv
      obtain ⟨hg3, h1⟩ := grdS h1
      refine ⟨idx_of hO hg3, ?_⟩
      obtain ⟨hg4, h1⟩ := grdS h1
      refine ⟨kin_of hO hg4, ?_⟩
      obtain ⟨hg5, h1⟩ := grdS h1
      refine ⟨idx_of hO hg5, ?_⟩
      obtain ⟨hg6, h1⟩ := grdS h1
      refine ⟨kin_of hO hg6, ?_⟩
      rcases condS h1 with ⟨hc7, h1⟩ | ⟨hc7, h1⟩
      · rw [hc7]
        cbv
        cases h1
        cases exitI hi1
        try dsimp only at h0
        cases h0
        exact fin_ok hX rfl ⟨[], _, _, ⟨rfl, rfl⟩, rfl, rfl, rfl, rfl, by cbv; try simp⟩
      · rw [hc7]
        cbv
        obtain ⟨hg8, h1⟩ := grdS h1
        refine ⟨inr_of hO hg8, ?_⟩
        cases h1
        exact ⟨_, [0, 1], nextI hI1 hi1, by cbv; try simp, by first | exact Nat.lt_succ_self _ | omega⟩
    · rw [hc2]
      cbv
      cases h1
      cases exitI hi1
      try dsimp only at h0
      cases h0
      exact fin_ok hX rfl ⟨[], _, _, ⟨rfl, rfl⟩, rfl, rfl, rfl, rfl, by cbv; try simp⟩
set_option maxHeartbeats 40000000 in
theorem fn_recurrence_Equal_1 {O0 : Ops} (hO0 : O0 = std) {a_1 : List Int} {b_1 : List Int} {r1 : Bool} (h : m_recurrence_Equal_1 O0 a_1 b_1 = some r1) :
    Fn Try.prog 43 [.c (.sl 0), .c (.sl 1)] [.arr false .i1 a_1, .arr false .i1 b_1] (fun v c => v = .c (.bool r1) ∧ c = []) := by
  refine fn_run tab_holds eqs_holds mixed [] Try.func43 (by kernel_rfl) (by kernel_rfl) (Nat.le_of_ble_eq_true rfl) ?_
  intro O X hO hX
  rw [hO0, ← hO] at h
  unfold m_recurrence_Equal_1 at h
  have h0 := h; clear h
  cbv
  obtain ⟨b45, hv, h0⟩ := bindS h0
  refine call_is hO hX (fn_slices_Equal_2 hO hv) (by kernel_rfl) [0, 1] rfl ⟨rfl, rfl, rfl, rfl, trivial⟩ rfl ?_
  cbv
  cases h0
  exact fin_ok hX rfl ⟨[], _, _, ⟨rfl, rfl⟩, rfl, rfl, rfl, rfl, by cbv; try simp⟩
set_option maxHeartbeats 40000000 in
theorem fn_slices_EqualFunc {O0 : Ops} (hO0 : O0 = std) {s1_1 : List Int} {s1_2 : List Int} {s1_3 : List Int} {s1_4 : List Int} {s1_5 : List Int} {s1_6 : List Int} {s1_7 : List Int} {s1_8 : List Int} {s2_1 : List Int} {s2_2 : List Int} {s2_3 : List Int} {s2_4 : List Int} {s2_5 : List Int} {s2_6 : List Int} {s2_7 : List Int} {s2_8 : List Int} {r1 : Bool} (h : m_slices_EqualFunc O0 s1_1 s1_2 s1_3 s1_4 s1_5 s1_6 s1_7 s1_8 s2_1 s2_2 s2_3 s2_4 s2_5 s2_6 s2_7 s2_8 = some r1) :
    Fn Try.prog 42 [.c (.asl 0 8), .c (.asl 1 8), .c (.fn 43 [])] [.ro 22 [.sl 2, .sl 3, .sl 4, .sl 5, .sl 6, .sl 7, .sl 8, .sl 9], .ro 22 [.sl 10, .sl 11, .sl 12, .sl 13, .sl 14, .sl 15, .sl 16, .sl 17], .arr false .i1 s1_1, .arr false .i1 s1_2, .arr false .i1 s1_3, .arr false .i1 s1_4, .arr false .i1 s1_5, .arr false .i1 s1_6, .arr false .i1 s1_7, .arr false .i1 s1_8, .arr false .i1 s2_1, .arr false .i1 s2_2, .arr false .i1 s2_3, .arr false .i1 s2_4, .arr false .i1 s2_5, .arr false .i1 s2_6, .arr false .i1 s2_7, .arr false .i1 s2_8] (fun v c => v = .c (.bool r1) ∧ c = []) := by
  refine fn_run tab_holds eqs_holds mixed [] Try.func42 (by kernel_rfl) (by kernel_rfl) (Nat.le_of_ble_eq_true rfl) ?_
  intro O X hO hX
  rw [hO0, ← hO] at h
  unfold m_slices_EqualFunc at h
  have h0 := h; clear h
  cbv
  rw [show (O .not (O .eq (Int.ofNat 8) (Int.ofNat 8))) = false from by subst hO; rfl]
  cbv
  refine loop_unroll tab_holds eqs_holds mixed [] hO hX 9 (by kernel_rfl) ?_
  cbv
  rw [show (O .lt 0 (Int.ofNat 8)) = true from by subst hO; rfl]
  cbv
  obtain ⟨b46, hv, h0⟩ := bindS h0
  refine call_is hO hX (fn_recurrence_Equal_1 hO hv) (by kernel_rfl) [2, 10] rfl ⟨rfl, rfl, rfl, rfl, trivial⟩ rfl ?_
  cbv
  rcases condS h0 with ⟨hc1, h0⟩ | ⟨hc1, h0⟩
  · rw [hc1]
    cbv
    cases h0
    exact fin_ok hX rfl ⟨[], _, _, ⟨rfl, rfl⟩, rfl, rfl, rfl, rfl, by cbv; try simp⟩
  · rw [hc1]
    cbv
    obtain ⟨hg2, h0⟩ := grdS h0
    refine ⟨inr_of hO hg2, ?_⟩
    try (rw [show (O .add 0 1) = 1 from by subst hO; rfl]; try cbv)
    try (rw [show (O .add 0 1) = 1 from by subst hO; rfl]; try cbv)
    rw [show (O .lt 1 (Int.ofNat 8)) = true from by subst hO; rfl]
    cbv
    obtain ⟨b47, hv, h0⟩ := bindS h0
    refine call_is hO hX (fn_recurrence_Equal_1 hO hv) (by kernel_rfl) [3, 11] rfl ⟨rfl, rfl, rfl, rfl, trivial⟩ rfl ?_
    cbv
    rcases condS h0 with ⟨hc3, h0⟩ | ⟨hc3, h0⟩
    · rw [hc3]
      cbv
      cases h0
      exact fin_ok hX rfl ⟨[], _, _, ⟨rfl, rfl⟩, rfl, rfl, rfl, rfl, by cbv; try simp⟩
    · rw [hc3]
      cbv
      obtain ⟨hg4, h0⟩ := grdS h0
      refine ⟨inr_of hO hg4, ?_⟩
      try (rw [show (O .add 1 1) = 2 from by subst hO; rfl]; try cbv)
      try (rw [show (O .add 1 1) = 2 from by subst hO; rfl]; try cbv)
      rw [show (O .lt 2 (Int.ofNat 8)) = true from by subst hO; rfl]
      cbv
      obtain ⟨b48, hv, h0⟩ := bindS h0
      refine call_is hO hX (fn_recurrence_Equal_1 hO hv) (by kernel_rfl) [4, 12] rfl ⟨rfl, rfl, rfl, rfl, trivial⟩ rfl ?_
      cbv
      rcases condS h0 with ⟨hc5, h0⟩ | ⟨hc5, h0⟩
      · rw [hc5]
        cbv
        cases h0
        exact fin_ok hX rfl ⟨[], _, _, ⟨rfl, rfl⟩, rfl, rfl, rfl, rfl, by cbv; try simp⟩
      · rw [hc5]
        cbv
        obtain ⟨hg6, h0⟩ := grdS h0
        refine ⟨inr_of hO hg6, ?_⟩
        try (rw [show (O .add 2 1) = 3 from by subst hO; rfl]; try cbv)
        try (rw [show (O .add 2 1) = 3 from by subst hO; rfl]; try cbv)
        rw [show (O .lt 3 (Int.ofNat 8)) = true from by subst hO; rfl]
        cbv
        obtain ⟨b49, hv, h0⟩ := bindS h0
        refine call_is hO hX (fn_recurrence_Equal_1 hO hv) (by kernel_rfl) [5, 13] rfl ⟨rfl, rfl, rfl, rfl, trivial⟩ rfl ?_
        cbv
        rcases condS h0 with ⟨hc7, h0⟩ | ⟨hc7, h0⟩
        · rw [hc7]
          cbv
          cases h0
          exact fin_ok hX rfl ⟨[], _, _, ⟨rfl, rfl⟩, rfl, rfl, rfl, rfl, by cbv; try simp⟩
        · rw [hc7]
          cbv
          obtain ⟨hg8, h0⟩ := grdS h0
          refine ⟨inr_of hO hg8, ?_⟩
          try (rw [show (O .add 3 1) = 4 from by subst hO; rfl]; try cbv)
          try (rw [show (O .add 3 1) = 4 from by subst hO; rfl]; try cbv)
          rw [show (O .lt 4 (Int.ofNat 8)) = true from by subst hO; rfl]
          cbv
          obtain ⟨b50, hv, h0⟩ := bindS h0
          refine call_is hO hX (fn_recurrence_Equal_1 hO hv) (by kernel_rfl) [6, 14] rfl ⟨rfl, rfl, rfl, rfl, trivial⟩ rfl ?_
          cbv
          rcases condS h0 with ⟨hc9, h0⟩ | ⟨hc9, h0⟩
          · rw [hc9]
            cbv
            cases h0
            exact fin_ok hX rfl ⟨[], _, _, ⟨rfl, rfl⟩, rfl, rfl, rfl, rfl, by cbv; try simp⟩
          · rw [hc9]
            cbv
            obtain ⟨hg10, h0⟩ := grdS h0
            refine ⟨inr_of hO hg10, ?_⟩
            try (rw [show (O .add 4 1) = 5 from by subst hO; rfl]; try cbv)
            try (rw [show (O .add 4 1) = 5 from by subst hO; rfl]; try cbv)
            rw [show (O .lt 5 (Int.ofNat 8)) = true from by subst hO; rfl]
            cbv
            obtain ⟨b51, hv, h0⟩ := bindS h0
            refine call_is hO hX (fn_recurrence_Equal_1 hO hv) (by kernel_rfl) [7, 15] rfl ⟨rfl, rfl, rfl, rfl, trivial⟩ rfl ?_
            cbv
            rcases condS h0 with ⟨hc11, h0⟩ | ⟨hc11, h0⟩
            · rw [hc11]
              cbv
              cases h0
              exact fin_ok hX rfl ⟨[], _, _, ⟨rfl, rfl⟩, rfl, rfl, rfl, rfl, by cbv; try simp⟩
            · rw [hc11]
              cbv
              obtain ⟨hg12, h0⟩ := grdS h0
              refine ⟨inr_of hO hg12, ?_⟩
              try (rw [show (O .add 5 1) = 6 from by subst hO; rfl]; try cbv)
              try (rw [show (O .add 5 1) = 6 from by subst hO; rfl]; try cbv)
              rw [show (O .lt 6 (Int.ofNat 8)) = true from by subst hO; rfl]
              cbv
              obtain ⟨b52, hv, h0⟩ := bindS h0
              refine call_is hO hX (fn_recurrence_Equal_1 hO hv) (by kernel_rfl) [8, 16] rfl ⟨rfl, rfl, rfl, rfl, trivial⟩ rfl ?_
              cbv
              rcases condS h0 with ⟨hc13, h0⟩ | ⟨hc13, h0⟩
              · rw [hc13]
                cbv
                cases h0
                exact fin_ok hX rfl ⟨[], _, _, ⟨rfl, rfl⟩, rfl, rfl, rfl, rfl, by cbv; try simp⟩
              · rw [hc13]
                cbv
                obtain ⟨hg14, h0⟩ := grdS h0
                refine ⟨inr_of hO hg14, ?_⟩
                try (rw [show (O .add 6 1) = 7 from by subst hO; rfl]; try cbv)
                try (rw [show (O .add 6 1) = 7 from by subst hO; rfl]; try cbv)
                rw [show (O .lt 7 (Int.ofNat 8)) = true from by subst hO; rfl]
                cbv
                obtain ⟨b53, hv, h0⟩ := bindS h0
                refine call_is hO hX (fn_recurrence_Equal_1 hO hv) (by kernel_rfl) [9, 17] rfl ⟨rfl, rfl, rfl, rfl, trivial⟩ rfl ?_
                cbv
                rcases condS h0 with ⟨hc15, h0⟩ | ⟨hc15, h0⟩
                · rw [hc15]
                  cbv
                  cases h0
                  exact fin_ok hX rfl ⟨[], _, _, ⟨rfl, rfl⟩, rfl, rfl, rfl, rfl, by cbv; try simp⟩
                · rw [hc15]
                  cbv
                  obtain ⟨hg16, h0⟩ := grdS h0
                  refine ⟨inr_of hO hg16, ?_⟩
                  try (rw [show (O .add 7 1) = 8 from by subst hO; rfl]; try cbv)
                  try (rw [show (O .add 7 1) = 8 from by subst hO; rfl]; try cbv)
                  rw [show (O .lt 8 (Int.ofNat 8)) = false from by subst hO; rfl]
                  cbv
                  cases h0
                  exact fin_ok hX rfl ⟨[], _, _, ⟨rfl, rfl⟩, rfl, rfl, rfl, rfl, by cbv; try simp⟩
end Go.Proofs.Ytmnhfaaaaejpaaa.R
namespace Go.Proofs.Ytmnhfaaaaejpaaa.R
open Go.RowKit Go.Proofs.Ytmnhfaaaaejpaaa
set_option maxRecDepth 100000

set_option maxHeartbeats 40000000 in
theorem fn_recurrence_Equal {O0 : Ops} (hO0 : O0 = std) {a_1 : Int} {a_2 : Int} {a_3 : Int} {a_4 : Int} {a_5 : Int} {b_1 : Int} {b_2 : Int} {b_3 : Int} {b_4 : Int} {b_5 : Int} {a_6 : List Int} {a_7 : List Int} {a_8 : List Int} {a_9 : List Int} {a_10 : List (Int × Int)} {a_11 : List Int} {a_12 : List Int} {a_13 : List Int} {a_14 : List Int} {b_6 : List Int} {b_7 : List Int} {b_8 : List Int} {b_9 : List Int} {b_10 : List (Int × Int)} {b_11 : List Int} {b_12 : List Int} {b_13 : List Int} {b_14 : List Int} {r1 : Bool} (h : m_recurrence_Equal O0 a_1 a_2 a_3 a_4 a_5 b_1 b_2 b_3 b_4 b_5 a_6 a_7 a_8 a_9 a_10 a_11 a_12 a_13 a_14 b_6 b_7 b_8 b_9 b_10 b_11 b_12 b_13 b_14 = some r1) :
    Fn Try.prog 18 [.agg [.int .i64 a_1, .int .i64 a_2, .int .i64 a_3, .int .i64 a_4, .sl 0, .sl 1, .sl 2, .sl 3, .sl 4, .sl 5, .sl 6, .sl 7, .sl 8, .int .i64 a_5], .agg [.int .i64 b_1, .int .i64 b_2, .int .i64 b_3, .int .i64 b_4, .sl 9, .sl 10, .sl 11, .sl 12, .sl 13, .sl 14, .sl 15, .sl 16, .sl 17, .int .i64 b_5]] [.arr false .i1 a_6, .arr false .i1 a_7, .arr false .i1 a_8, .arr false .i1 a_9, .arr false .i2 a_10, .arr false .i1 a_11, .arr false .i1 a_12, .arr false .i1 a_13, .arr false .i1 a_14, .arr false .i1 b_6, .arr false .i1 b_7, .arr false .i1 b_8, .arr false .i1 b_9, .arr false .i2 b_10, .arr false .i1 b_11, .arr false .i1 b_12, .arr false .i1 b_13, .arr false .i1 b_14] (fun v c => v = .c (.bool r1) ∧ c = []) := by
  refine fn_run tab_holds eqs_holds mixed [(5, (.seg 9 [] (.alt 0 (.alt 1 (.alt 2 (.alt 3 (.alt 4 (.alt 5 .fin .no) .no) .no) .no) (.alt 2 (.alt 1 (.alt 3 (.alt 4 (.alt 5 .fin .no) .no) .no) .no) .no)) (.alt 2 (.alt 0 (.alt 1 (.alt 3 (.alt 4 (.alt 5 .fin .no) .no) .no) .no) .no) .no))), [])] Try.func18 (by kernel_rfl) (by kernel_rfl) (Nat.le_of_ble_eq_true rfl) ?_
  intro O X hO hX
  rw [hO0, ← hO] at h
  unfold m_recurrence_Equal at h
  have h0 := h; clear h
  cbv
  obtain ⟨⟨n85, n86, n87, n88, l53, l54, l55, l56, l57, l58, l59, l60, l61, n89, n90⟩, hv, h0⟩ := bindS h0
  try dsimp only at h0
  refine call_is hO hX (fn_recurrence_Canonical hO hv) (by kernel_rfl) [0, 1, 2, 3, 4, 5, 6, 7, 8] rfl ⟨rfl, rfl, rfl, rfl, rfl, rfl, rfl, rfl, rfl, rfl, rfl, rfl, rfl, rfl, rfl, rfl, rfl, rfl, trivial⟩ rfl ?_
  cbv
  obtain ⟨⟨n91, n92, n93, n94, l62, l63, l64, l65, l66, l67, l68, l69, l70, n95, n96⟩, hv, h0⟩ := bindS h0
  try dsimp only at h0
  refine call_is hO hX (fn_recurrence_Canonical hO hv) (by kernel_rfl) [9, 10, 11, 12, 13, 14, 15, 16, 17] rfl ⟨rfl, rfl, rfl, rfl, rfl, rfl, rfl, rfl, rfl, rfl, rfl, rfl, rfl, rfl, rfl, rfl, rfl, rfl, trivial⟩ rfl ?_
  cbv
  obtain ⟨x135, h1, h0⟩ := bindS h0
  rcases condS h1 with ⟨hc1, h1⟩ | ⟨hc1, h1⟩
  · rw [hc1]
    cbv
    cases h1
    try dsimp only at h0
    replace h0 := condT h0 rfl
    cases h0
    exact fin_ok hX rfl ⟨[], _, _, ⟨rfl, rfl⟩, rfl, rfl, rfl, rfl, by cbv; try simp⟩
  · rw [hc1]
    cbv
    rcases condS h1 with ⟨hc2, h1⟩ | ⟨hc2, h1⟩
    · rw [hc2]
      cbv
      cases h1
      try dsimp only at h0
      replace h0 := condT h0 rfl
      cases h0
      exact fin_ok hX rfl ⟨[], _, _, ⟨rfl, rfl⟩, rfl, rfl, rfl, rfl, by cbv; try simp⟩
    · rw [hc2]
      cbv
      rcases condS h1 with ⟨hc3, h1⟩ | ⟨hc3, h1⟩
      · rw [hc3]
        cbv
        cases h1
        try dsimp only at h0
        replace h0 := condT h0 rfl
        cases h0
        exact fin_ok hX rfl ⟨[], _, _, ⟨rfl, rfl⟩, rfl, rfl, rfl, rfl, by cbv; try simp⟩
      · rw [hc3]
        cbv
        rcases condS h1 with ⟨hc4, h1⟩ | ⟨hc4, h1⟩
        · rw [hc4]
          cbv
          cases h1
          try dsimp only at h0
          replace h0 := condT h0 rfl
          cases h0
          exact fin_ok hX rfl ⟨[], _, _, ⟨rfl, rfl⟩, rfl, rfl, rfl, rfl, by cbv; try simp⟩
        · rw [hc4]
          cbv
          rcases condS h1 with ⟨hc5, h1⟩ | ⟨hc5, h1⟩
          · rw [hc5]
            cbv
            cases h1
            try dsimp only at h0
            replace h0 := condT h0 rfl
            cases h0
            exact fin_ok hX rfl ⟨[], _, _, ⟨rfl, rfl⟩, rfl, rfl, rfl, rfl, by cbv; try simp⟩
          · rw [hc5]
            cbv
            rcases condS h1 with ⟨hc6, h1⟩ | ⟨hc6, h1⟩
            · rw [hc6]
              cbv
              cases h1
              try dsimp only at h0
              replace h0 := condT h0 rfl
              cases h0
              exact fin_ok hX rfl ⟨[], _, _, ⟨rfl, rfl⟩, rfl, rfl, rfl, rfl, by cbv; try simp⟩
            · rw [hc6]
              cbv
              rcases condS h1 with ⟨hc7, h1⟩ | ⟨hc7, h1⟩
              · rw [hc7]
                cbv
                cases h1
                try dsimp only at h0
                replace h0 := condT h0 rfl
                cases h0
                exact fin_ok hX rfl ⟨[], _, _, ⟨rfl, rfl⟩, rfl, rfl, rfl, rfl, by cbv; try simp⟩
              · rw [hc7]
                cbv
                obtain ⟨b44, hv, h1⟩ := bindS h1
                refine call_is hO hX (fn_slices_Equal hO hv) (by kernel_rfl) [24, 34] rfl ⟨rfl, rfl, rfl, rfl, trivial⟩ rfl ?_
                cbv
                cases h1
                try dsimp only at h0
                rcases condS h0 with ⟨hc8, h0⟩ | ⟨hc8, h0⟩
                · rw [hc8]
                  cbv
                  cases h0
                  exact fin_ok hX rfl ⟨[], _, _, ⟨rfl, rfl⟩, rfl, rfl, rfl, rfl, by cbv; try simp⟩
                · rw [hc8]
                  cbv
                  refine ⟨?_, ?_, trivial⟩
                  · refine ⟨?_, ?_, trivial⟩
                    · refine call_inline tab_holds eqs_holds mixed [] hO hX (by kernel_rfl) Try.func41 (by kernel_rfl) (by kernel_rfl) rfl ?_
                      intro X1 hX1 hF1
                      cbv
                      refine hF1 _ _ ?_
                      cbv
                      refine ⟨?_, trivial⟩
                      · refine ⟨?_, trivial⟩
                        · refine call_inline tab_holds eqs_holds mixed [] hO hX (by kernel_rfl) Try.func41 (by kernel_rfl) (by kernel_rfl) rfl ?_
                          intro X2 hX2 hF2
                          cbv
                          refine hF2 _ _ ?_
                          cbv
                          refine ⟨?_, trivial⟩
                          · refine ⟨?_, trivial⟩
                            · obtain ⟨b54, hv, h0⟩ := bindS h0
                              refine call_is hO hX (fn_slices_EqualFunc hO hv) (by kernel_rfl) [42, 45, 20, 21, 22, 23, 25, 26, 27, 28, 30, 31, 32, 33, 35, 36, 37, 38] rfl ⟨rfl, rfl, rfl, rfl, rfl, rfl, rfl, rfl, rfl, rfl, rfl, rfl, rfl, rfl, rfl, rfl, rfl, rfl, rfl, rfl, rfl, rfl, rfl, rfl, rfl, rfl, rfl, rfl, rfl, rfl, rfl, rfl, rfl, rfl, rfl, rfl, trivial⟩ rfl ?_
                              cbv
                              cases h0
                              exact fin_ok hX rfl ⟨[], _, _, ⟨rfl, rfl⟩, rfl, rfl, rfl, rfl, by cbv; try simp⟩
                    · refine ⟨?_, trivial⟩
                      · refine call_inline tab_holds eqs_holds mixed [] hO hX (by kernel_rfl) Try.func41 (by kernel_rfl) (by kernel_rfl) rfl ?_
                        intro X3 hX3 hF3
                        cbv
                        refine hF3 _ _ ?_
                        cbv
                        refine ⟨?_, trivial⟩
                        · refine call_inline tab_holds eqs_holds mixed [] hO hX (by kernel_rfl) Try.func41 (by kernel_rfl) (by kernel_rfl) rfl ?_
                          intro X4 hX4 hF4
                          cbv
                          refine hF4 _ _ ?_
                          cbv
                          refine ⟨?_, trivial⟩
                          · refine ⟨?_, trivial⟩
                            · obtain ⟨b54, hv, h0⟩ := bindS h0
                              refine call_is hO hX (fn_slices_EqualFunc hO hv) (by kernel_rfl) [42, 45, 20, 21, 22, 23, 25, 26, 27, 28, 30, 31, 32, 33, 35, 36, 37, 38] rfl ⟨rfl, rfl, rfl, rfl, rfl, rfl, rfl, rfl, rfl, rfl, rfl, rfl, rfl, rfl, rfl, rfl, rfl, rfl, rfl, rfl, rfl, rfl, rfl, rfl, rfl, rfl, rfl, rfl, rfl, rfl, rfl, rfl, rfl, rfl, rfl, rfl, trivial⟩ rfl ?_
                              cbv
                              cases h0
                              exact fin_ok hX rfl ⟨[], _, _, ⟨rfl, rfl⟩, rfl, rfl, rfl, rfl, by cbv; try simp⟩
                  · refine ⟨?_, trivial⟩
                    · refine ⟨?_, trivial⟩
                      · refine call_inline tab_holds eqs_holds mixed [] hO hX (by kernel_rfl) Try.func41 (by kernel_rfl) (by kernel_rfl) rfl ?_
                        intro X5 hX5 hF5
                        cbv
                        refine hF5 _ _ ?_
                        cbv
                        refine ⟨?_, trivial⟩
                        · refine call_inline tab_holds eqs_holds mixed [] hO hX (by kernel_rfl) Try.func41 (by kernel_rfl) (by kernel_rfl) rfl ?_
                          intro X6 hX6 hF6
                          cbv
                          refine hF6 _ _ ?_
                          cbv
                          refine ⟨?_, trivial⟩
                          · refine ⟨?_, trivial⟩
                            · obtain ⟨b54, hv, h0⟩ := bindS h0
                              refine call_is hO hX (fn_slices_EqualFunc hO hv) (by kernel_rfl) [42, 45, 20, 21, 22, 23, 25, 26, 27, 28, 30, 31, 32, 33, 35, 36, 37, 38] rfl ⟨rfl, rfl, rfl, rfl, rfl, rfl, rfl, rfl, rfl, rfl, rfl, rfl, rfl, rfl, rfl, rfl, rfl, rfl, rfl, rfl, rfl, rfl, rfl, rfl, rfl, rfl, rfl, rfl, rfl, rfl, rfl, rfl, rfl, rfl, rfl, rfl, trivial⟩ rfl ?_
                              cbv
                              cases h0
                              exact fin_ok hX rfl ⟨[], _, _, ⟨rfl, rfl⟩, rfl, rfl, rfl, rfl, by cbv; try simp⟩
set_option maxHeartbeats 40000000 in
theorem fn_law29_RecurrenceOrder {O0 : Ops} (hO0 : O0 = std) {r_1 : Int} {r_2 : Int} {r_3 : Int} {r_4 : Int} {r_5 : Int} {start_1 : Int} {l_1 : Int} {r_6 : List Int} {r_7 : List Int} {r_8 : List Int} {r_9 : List Int} {r_10 : List (Int × Int)} {r_11 : List Int} {r_12 : List Int} {r_13 : List Int} {r_14 : List Int} {r1 : Bool} (h : m_law29_RecurrenceOrder O0 r_1 r_2 r_3 r_4 r_5 start_1 l_1 r_6 r_7 r_8 r_9 r_10 r_11 r_12 r_13 r_14 = some r1) :
    Fn Try.prog 3 [.agg [.int .i64 r_1, .int .i64 r_2, .int .i64 r_3, .int .i64 r_4, .sl 0, .sl 1, .sl 2, .sl 3, .sl 4, .sl 5, .sl 6, .sl 7, .sl 8, .int .i64 r_5], .c (.int .i64 start_1), .c (.int .i64 l_1)] [.arr false .i1 r_6, .arr false .i1 r_7, .arr false .i1 r_8, .arr false .i1 r_9, .arr false .i2 r_10, .arr false .i1 r_11, .arr false .i1 r_12, .arr false .i1 r_13, .arr false .i1 r_14] (fun v c => v = .c (.bool r1) ∧ c = []) := by
  refine fn_run tab_holds eqs_holds mixed [(5, (.seg 1 [0, 1, 2, 4, 5, 6, 8, 9, 10, 12, 13, 14] (.seg 2 [3] (.seg 1 [16] (.seg 2 [7] (.seg 2 [11] (.seg 2 [15] .fin)))))), [17, 18, 19, 20, 21, 22, 23]), (6, (.seg 1 [0, 1, 2, 4, 5, 6, 8, 9, 10, 12, 13, 14] (.seg 2 [3] (.seg 1 [16] (.seg 2 [7] (.seg 2 [11] (.seg 2 [15] .fin)))))), [17, 18, 19, 20, 21, 22, 23]), (7, (.seg 1 [0, 1, 3, 4] (.seg 2 [2] .fin)), [5, 6, 7]), (11, (.seg 1 [0, 1, 2, 3, 4, 5, 6, 7, 8, 9, 10, 12] (.seg 2 [11] (.seg 2 [13] (.seg 1 [14, 15, 16] .fin)))), [])] Try.func3 (by kernel_rfl) (by kernel_rfl) (Nat.le_of_ble_eq_true rfl) ?_
  intro O X hO hX
  rw [hO0, ← hO] at h
  unfold m_law29_RecurrenceOrder at h
  have h0 := h; clear h
  cbv
  obtain ⟨x132, h1, h0⟩ := bindS h0
  obtain ⟨b38, hv, h1⟩ := bindS h1
  refine call_is hO hX (fn_law29_awake hO hv) (by kernel_rfl) [] rfl trivial rfl ?_
  cbv
  rcases condS h1 with ⟨hc1, h1⟩ | ⟨hc1, h1⟩
  · rw [hc1]
    cbv
    cases h1
    try dsimp only at h0
    replace h0 := condT h0 rfl
    obtain ⟨b40, hv, h0⟩ := bindS h0
    refine call_is hO hX (fn_law29_awake hO hv) (by kernel_rfl) [] rfl trivial rfl ?_
    cbv
    cases h0
    exact fin_ok hX rfl ⟨[], _, _, ⟨rfl, rfl⟩, rfl, rfl, rfl, rfl, by cbv; try simp⟩
  · rw [hc1]
    cbv
    obtain ⟨b39, hv, h1⟩ := bindS h1
    refine call_is hO hX (fn_law29_long hO hv) (by kernel_rfl) [0, 1, 2, 3, 4, 5, 6, 7, 8] rfl ⟨rfl, rfl, rfl, rfl, rfl, rfl, rfl, rfl, rfl, rfl, rfl, rfl, rfl, rfl, rfl, rfl, rfl, rfl, trivial⟩ rfl ?_
    cbv
    rcases condS h1 with ⟨hc2, h1⟩ | ⟨hc2, h1⟩
    · rw [hc2]
      cbv
      cases h1
      try dsimp only at h0
      replace h0 := condT h0 rfl
      obtain ⟨b40, hv, h0⟩ := bindS h0
      refine call_is hO hX (fn_law29_awake hO hv) (by kernel_rfl) [] rfl trivial rfl ?_
      cbv
      cases h0
      exact fin_ok hX rfl ⟨[], _, _, ⟨rfl, rfl⟩, rfl, rfl, rfl, rfl, by cbv; try simp⟩
    · rw [hc2]
      cbv
      cases h1
      try dsimp only at h0
      rcases condS h0 with ⟨hc3, h0⟩ | ⟨hc3, h0⟩
      · rw [hc3]
        cbv
        obtain ⟨b40, hv, h0⟩ := bindS h0
        refine call_is hO hX (fn_law29_awake hO hv) (by kernel_rfl) [] rfl trivial rfl ?_
        cbv
        cases h0
        exact fin_ok hX rfl ⟨[], _, _, ⟨rfl, rfl⟩, rfl, rfl, rfl, rfl, by cbv; try simp⟩
      · rw [hc3]
        cbv
        obtain ⟨l31, hv, h0⟩ := bindS h0
        refine call_is hO hX (fn_law29_RecurrenceOrder_1 hO hv) (by kernel_rfl) [0] rfl ⟨rfl, rfl, trivial⟩ rfl ?_
        cbv
        obtain ⟨l32, hv, h0⟩ := bindS h0
        refine call_is hO hX (fn_law29_RecurrenceOrder_1 hO hv) (by kernel_rfl) [1] rfl ⟨rfl, rfl, trivial⟩ rfl ?_
        cbv
        obtain ⟨l33, hv, h0⟩ := bindS h0
        refine call_is hO hX (fn_law29_RecurrenceOrder_1 hO hv) (by kernel_rfl) [2] rfl ⟨rfl, rfl, trivial⟩ rfl ?_
        cbv
        obtain ⟨l34, hv, h0⟩ := bindS h0
        refine call_is hO hX (fn_law29_RecurrenceOrder_1 hO hv) (by kernel_rfl) [3] rfl ⟨rfl, rfl, trivial⟩ rfl ?_
        cbv
        obtain ⟨l35, hv, h0⟩ := bindS h0
        refine call_is hO hX (fn_law29_RecurrenceOrder_1 hO hv) (by kernel_rfl) [5] rfl ⟨rfl, rfl, trivial⟩ rfl ?_
        cbv
        obtain ⟨l36, hv, h0⟩ := bindS h0
        refine call_is hO hX (fn_law29_RecurrenceOrder_1 hO hv) (by kernel_rfl) [6] rfl ⟨rfl, rfl, trivial⟩ rfl ?_
        cbv
        obtain ⟨l37, hv, h0⟩ := bindS h0
        refine call_is hO hX (fn_law29_RecurrenceOrder_1 hO hv) (by kernel_rfl) [7] rfl ⟨rfl, rfl, trivial⟩ rfl ?_
        cbv
        obtain ⟨l38, hv, h0⟩ := bindS h0
        refine call_is hO hX (fn_law29_RecurrenceOrder_1 hO hv) (by kernel_rfl) [8] rfl ⟨rfl, rfl, trivial⟩ rfl ?_
        cbv
        obtain ⟨l39, hv, h0⟩ := bindS h0
        refine call_is hO hX (fn_clone_i2 hO hv) (by kernel_rfl) [4] rfl ⟨rfl, rfl, trivial⟩ rfl ?_
        cbv
        obtain ⟨hg4, h0⟩ := grdS h0
        refine ⟨room_of hO hg4, ?_⟩
        obtain ⟨hg5, h0⟩ := grdS h0
        refine ⟨room_of hO hg5, ?_⟩
        refine call_inline tab_holds eqs_holds mixed [(3, (.seg 1 [0, 1] (.seg 0 [2, 3] (.seg 1 [4, 5, 6, 7, 8, 9, 10, 11, 12] .fin))), [13, 14, 15])] hO hX (by kernel_rfl) Try.func16 (by kernel_rfl) (by kernel_rfl) rfl ?_
        intro X1 hX1 hF1
        cbv
        obtain ⟨hg6, h0⟩ := grdS h0
        refine ⟨inr_of hO hg6, ?_⟩
        obtain ⟨l41, hi, h0⟩ := bindS h0
        obtain ⟨I1, hI1, hi⟩ := loopS hi
        refine loop1 tab_holds eqs_holds mixed [(3, (.seg 1 [0, 1] (.seg 0 [2, 3] (.seg 1 [4, 5, 6, 7, 8, 9, 10, 11, 12] .fin))), [13, 14, 15])] hO hX1 I1 (fun y => [(2, .c (.int .i64 y.2.1)), (3, .c (.int .i64 y.2.2.1))]) (fun y => [(20, .own 32 .i2 y.2.2.2)]) (fun y => y.1) _ (by kernel_rfl) hi (by cbv; try simp) ?_
        refine allp ?_
        intro n1
        refine allp ?_
        intro i4
        refine allp ?_
        intro j4
        intro l40 hi
        cbv
        rw [hI1] at hi
        obtain ⟨n1, rfl, x1, h1, hi1⟩ := iterS hi
        unfold m_law29_RecurrenceOrder_L1 at h1
        try dsimp only at h1
        rcases condS h1 with ⟨hc7, h1⟩ | ⟨hc7, h1⟩
        · rw [hc7]
          cbv
          obtain ⟨hg8, h1⟩ := grdS h1
          refine ⟨idx_of hO hg8, ?_⟩
          obtain ⟨hg9, h1⟩ := grdS h1
          refine ⟨kin_of hO hg9, ?_⟩
          obtain ⟨hg10, h1⟩ := grdS h1
          refine ⟨idx_of hO hg10, ?_⟩
          obtain ⟨hg11, h1⟩ := grdS h1
          refine ⟨kin_of hO hg11, ?_⟩
          refine ⟨idx_of hO hg10, ?_⟩
          refine ⟨kin_of hO hg11, ?_⟩
          obtain ⟨hg12, h1⟩ := grdS h1
          refine ⟨idx_of hO hg12, ?_⟩
          obtain ⟨hg13, h1⟩ := grdS h1
          refine ⟨kin_of hO hg13, ?_⟩
          obtain ⟨hg14, h1⟩ := grdS h1
          refine ⟨inr_of hO hg14, ?_⟩
          obtain ⟨hg15, h1⟩ := grdS h1
          refine ⟨inr_of hO hg15, ?_⟩
          cases h1
          exact ⟨_, [0, 1, 2, 3, 4, 5, 6, 7, 8, 9, 10, 11, 12, 13, 14, 15, 16, 17, 18, 19, 20], nextI hI1 hi1, by cbv; try simp, by first | exact Nat.lt_succ_self _ | omega⟩
        · rw [hc7]
          cbv
          cases h1
          cases exitI hi1
          try dsimp only at h0
          refine hF1 _ _ ?_
          cbv
          obtain ⟨⟨b41, n83⟩, hv, h0⟩ := bindS h0
          try dsimp only at h0
          refine call_is hO hX (fn_recurrence_Matches hO hv) (by kernel_rfl) [0, 1, 2, 3, 4, 5, 6, 7, 8] rfl ⟨rfl, rfl, rfl, rfl, rfl, rfl, rfl, rfl, rfl, rfl, rfl, rfl, rfl, rfl, rfl, rfl, rfl, rfl, trivial⟩ rfl ?_
          cbv
          obtain ⟨⟨b42, n84⟩, hv, h0⟩ := bindS h0
          try dsimp only at h0
          refine call_is hO hX (fn_recurrence_Matches hO hv) (by kernel_rfl) [11, 12, 13, 14, 20, 15, 16, 17, 18] rfl ⟨rfl, rfl, rfl, rfl, rfl, rfl, rfl, rfl, rfl, rfl, rfl, rfl, rfl, rfl, rfl, rfl, rfl, rfl, trivial⟩ rfl ?_
          cbv
          obtain ⟨x139, h1, h0⟩ := bindS h0
          rcases condS h1 with ⟨hc16, h1⟩ | ⟨hc16, h1⟩
          · rw [hc16]
            cbv
            rcases condS h1 with ⟨hc17, h1⟩ | ⟨hc17, h1⟩
            · rw [hc17]
              cbv
              obtain ⟨b55, hv, h1⟩ := bindS h1
              refine call_is hO hX (fn_recurrence_Equal hO hv) (by kernel_rfl) [0, 1, 2, 3, 4, 5, 6, 7, 8, 11, 12, 13, 14, 20, 15, 16, 17, 18] rfl ⟨rfl, rfl, rfl, rfl, rfl, rfl, rfl, rfl, rfl, rfl, rfl, rfl, rfl, rfl, rfl, rfl, rfl, rfl, rfl, rfl, rfl, rfl, rfl, rfl, rfl, rfl, rfl, rfl, rfl, rfl, rfl, rfl, rfl, rfl, rfl, rfl, trivial⟩ rfl ?_
              cbv
              obtain ⟨b56, hv, h1⟩ := bindS h1
              refine call_is hO hX (fn_recurrence_Valid hO hv) (by kernel_rfl) [0, 1, 2, 3, 4, 5, 6, 7, 8] rfl ⟨rfl, rfl, rfl, rfl, rfl, rfl, rfl, rfl, rfl, rfl, rfl, rfl, rfl, rfl, rfl, rfl, rfl, rfl, trivial⟩ rfl ?_
              cbv
              cases h1
              try dsimp only at h0
              cases h0
              exact fin_ok hX rfl ⟨[], _, _, ⟨rfl, rfl⟩, rfl, rfl, rfl, rfl, by cbv; try simp⟩
            · rw [hc17]
              cbv
              cases h1
              try dsimp only at h0
              cases h0
              exact fin_ok hX rfl ⟨[], _, _, ⟨rfl, rfl⟩, rfl, rfl, rfl, rfl, by cbv; try simp⟩
          · rw [hc16]
            cbv
            cases h1
            try dsimp only at h0
            cases h0
            exact fin_ok hX rfl ⟨[], _, _, ⟨rfl, rfl⟩, rfl, rfl, rfl, rfl, by cbv; try simp⟩
end Go.Proofs.Ytmnhfaaaaejpaaa.R
namespace Go.Proofs.Ytmnhfaaaaejpaaa
open Go.RowKit Go.Proofs.Ytmnhfaaaaejpaaa.R
theorem recurrenceOrder_walk (f0 N0 c0 u0 ws0 : Int) (Amo0 : Option Addr) (Cmo0 : Nat) (Lmo0 : List Int) (Amd0 : Option Addr) (Cmd0 : Nat) (Lmd0 : List Int) (Ayd0 : Option Addr) (Cyd0 : Nat) (Lyd0 : List Int) (Awk0 : Option Addr) (Cwk0 : Nat) (Lwk0 : List Int) (Ady0 : Option Addr) (Cdy0 : Nat) (Ldy0 : List (Int × Int)) (Ah0 : Option Addr) (Ch0 : Nat) (Lh0 : List Int) (Am0 : Option Addr) (Cm0 : Nat) (Lm0 : List Int) (As0 : Option Addr) (Cs0 : Nat) (Ls0 : List Int) (Aps0 : Option Addr) (Cps0 : Nat) (Lps0 : List Int) (n1 : Int) (n2 : Int) (w : World) (hmo0 : IsR w Amo0 Lmo0) (hcmo0 : Lmo0.length ≤ Cmo0) (hmmo0 : Cmo0 ≤ maxLen) (hmd0 : IsR w Amd0 Lmd0) (hcmd0 : Lmd0.length ≤ Cmd0) (hmmd0 : Cmd0 ≤ maxLen) (hyd0 : IsR w Ayd0 Lyd0) (hcyd0 : Lyd0.length ≤ Cyd0) (hmyd0 : Cyd0 ≤ maxLen) (hwk0 : IsR w Awk0 Lwk0) (hcwk0 : Lwk0.length ≤ Cwk0) (hmwk0 : Cwk0 ≤ maxLen) (hdy0 : SpsR w Ady0 Ldy0) (hcdy0 : Ldy0.length ≤ Cdy0) (hmdy0 : Cdy0 ≤ maxLen) (hh0 : IsR w Ah0 Lh0) (hch0 : Lh0.length ≤ Ch0) (hmh0 : Ch0 ≤ maxLen) (hm0 : IsR w Am0 Lm0) (hcm0 : Lm0.length ≤ Cm0) (hmm0 : Cm0 ≤ maxLen) (hs0 : IsR w As0 Ls0) (hcs0 : Ls0.length ≤ Cs0) (hms0 : Cs0 ≤ maxLen) (hps0 : IsR w Aps0 Lps0) (hcps0 : Lps0.length ≤ Cps0) (hmps0 : Cps0 ≤ maxLen) :
    Calls Try.prog 3 #[.agg #[.int .i64 f0, .int .i64 N0, .int .i64 c0, .int .i64 u0, .slice Amo0 (List.length Lmo0) Cmo0, .slice Amd0 (List.length Lmd0) Cmd0, .slice Ayd0 (List.length Lyd0) Cyd0, .slice Awk0 (List.length Lwk0) Cwk0, .slice Ady0 (List.length Ldy0) Cdy0, .slice Ah0 (List.length Lh0) Ch0, .slice Am0 (List.length Lm0) Cm0, .slice As0 (List.length Ls0) Cs0, .slice Aps0 (List.length Lps0) Cps0, .int .i64 ws0], .int .i64 n1, .int .i64 n2] w fun e w' => e = .returned (.bool true) ∧ Below w.heap.size w w' := by
  refine fn_true (fn_law29_RecurrenceOrder rfl (pl_RecurrenceOrder ⟨f0, N0, c0, u0, ws0, Lmo0, Lmd0, Lyd0, Lwk0, Ldy0, Lh0, Lm0, Ls0, Lps0⟩ n1 n2)) w [.arr false Amo0 Cmo0 .i1 Lmo0, .arr false Amd0 Cmd0 .i1 Lmd0, .arr false Ayd0 Cyd0 .i1 Lyd0, .arr false Awk0 Cwk0 .i1 Lwk0, .arr false Ady0 Cdy0 .i2 Ldy0, .arr false Ah0 Ch0 .i1 Lh0, .arr false Am0 Cm0 .i1 Lm0, .arr false As0 Cs0 .i1 Ls0, .arr false Aps0 Cps0 .i1 Lps0] rfl (hok_ro fun d hd => ?_) _ rfl
  simp at hd
  rcases hd with rfl | rfl | rfl | rfl | rfl | rfl | rfl | rfl | rfl
  · exact is_arr hmo0 hcmo0 hmmo0
  · exact is_arr hmd0 hcmd0 hmmd0
  · exact is_arr hyd0 hcyd0 hmyd0
  · exact is_arr hwk0 hcwk0 hmwk0
  · exact sps_arr hdy0 hcdy0 hmdy0
  · exact is_arr hh0 hch0 hmh0
  · exact is_arr hm0 hcm0 hmm0
  · exact is_arr hs0 hcs0 hms0
  · exact is_arr hps0 hcps0 hmps0
end Go.Proofs.Ytmnhfaaaaejpaaa
