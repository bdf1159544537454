/-
  The code does what its models say (printed by lift.py).
-/
import Derived.Test.YtoklfjkanipjkaaGM
import Derived.Test.YtoklfjkanipjkaaManW
import Derived.Test.YtoklfjkanipjkaaGW5
namespace Go.Proofs.Ytoklfjkanipjkaa
open Go.RowKit
set_option maxRecDepth 100000

set_option maxHeartbeats 4000000 in
theorem fn_slices_IndexFunc_2 {O0 : Ops} (hO0 : O0 = std) {s_1 : Int} {s_2 : Int} {s_3 : List (Int × Int)} {r1 : Int} (h : m_slices_IndexFunc_2 O0 s_1 s_2 s_3 = some r1) :
    Fn Try.prog 86 [.c (.asl 0 1), .c (.fn 46 [])] [.ro 24 [.int .i64 s_1, .int .i64 s_2, .sl 1], .arr false .i2 s_3] (fun v c => v = .c (.int .i64 r1) ∧ c = []) := by
  refine fn_run tab_holds eqs_holds mixed [] Try.func86 (by kernel_rfl) (by kernel_rfl) (Nat.le_of_ble_eq_true rfl) ?_
  intro O X hO hX
  rw [hO0, ← hO] at h
  unfold m_slices_IndexFunc_2 at h
  have h0 := h; clear h
  cbv
  refine loop_unroll tab_holds eqs_holds mixed [] hO hX 2 (by kernel_rfl) ?_
  cbv
  rw [show (O .lt 0 (Int.ofNat 1)) = true from by subst hO; rfl]
  cbv
  obtain ⟨b19, hv, h0⟩ := bindS h0
  refine call_go hO hX (fn_law16_great_1 hO hv) (by kernel_rfl) [1] rfl ⟨rfl, rfl, trivial⟩ rfl ?_
  rintro _ _ ⟨rfl, rfl⟩
  cbv
  rcases condS h0 with ⟨hc0, h0⟩ | ⟨hc0, h0⟩
  · rw [hc0]
    cbv
    cases h0
    exact fin_ok hX rfl ⟨[], _, _, ⟨rfl, rfl⟩, rfl, rfl, rfl, rfl, by cbv; try simp⟩
  · rw [hc0]
    cbv
    obtain ⟨hg1, h0⟩ := grdS h0
    refine ⟨inr_of hO hg1, ?_⟩
    try (rw [show (O .add 0 1) = 1 from by subst hO; rfl]; try cbv)
    try (rw [show (O .add 0 1) = 1 from by subst hO; rfl]; try cbv)
    rw [show (O .lt 1 (Int.ofNat 1)) = false from by subst hO; rfl]
    cbv
    cases h0
    exact fin_ok hX rfl ⟨[], _, _, ⟨rfl, rfl⟩, rfl, rfl, rfl, rfl, by cbv; try simp⟩
set_option maxHeartbeats 4000000 in
theorem fn_slices_ContainsFunc_2 {O0 : Ops} (hO0 : O0 = std) {s_1 : Int} {s_2 : Int} {s_3 : List (Int × Int)} {r1 : Bool} (h : m_slices_ContainsFunc_2 O0 s_1 s_2 s_3 = some r1) :
    Fn Try.prog 45 [.c (.asl 0 1), .c (.fn 46 [])] [.ro 24 [.int .i64 s_1, .int .i64 s_2, .sl 1], .arr false .i2 s_3] (fun v c => v = .c (.bool r1) ∧ c = []) := by
  refine fn_run tab_holds eqs_holds mixed [] Try.func45 (by kernel_rfl) (by kernel_rfl) (Nat.le_of_ble_eq_true rfl) ?_
  intro O X hO hX
  rw [hO0, ← hO] at h
  unfold m_slices_ContainsFunc_2 at h
  have h0 := h; clear h
  cbv
  obtain ⟨n52, hv, h0⟩ := bindS h0
  refine call_go hO hX (fn_slices_IndexFunc_2 hO hv) (by kernel_rfl) [0, 1] rfl ⟨rfl, rfl, rfl, rfl, trivial⟩ rfl ?_
  rintro _ _ ⟨rfl, rfl⟩
  cbv
  cases h0
  exact fin_ok hX rfl ⟨[], _, _, ⟨rfl, rfl⟩, rfl, rfl, rfl, rfl, by cbv; try simp⟩
set_option maxHeartbeats 4000000 in
theorem fn_law16_great {O0 : Ops} (hO0 : O0 = std) {l_1 : Int} {l_2 : Int} {l_3 : List (Int × Int)} {r1 : Bool} (h : m_law16_great O0 l_1 l_2 l_3 = some r1) :
    Fn Try.prog 14 [.c (.asl 0 1)] [.ro 24 [.int .i64 l_1, .int .i64 l_2, .sl 1], .arr false .i2 l_3] (fun v c => v = .c (.bool r1) ∧ c = []) := by
  refine fn_run tab_holds eqs_holds mixed [] Try.func14 (by kernel_rfl) (by kernel_rfl) (Nat.le_of_ble_eq_true rfl) ?_
  intro O X hO hX
  rw [hO0, ← hO] at h
  unfold m_law16_great at h
  have h0 := h; clear h
  cbv
  obtain ⟨b20, hv, h0⟩ := bindS h0
  refine call_go hO hX (fn_slices_ContainsFunc_2 hO hv) (by kernel_rfl) [0, 1] rfl ⟨rfl, rfl, rfl, rfl, trivial⟩ rfl ?_
  rintro _ _ ⟨rfl, rfl⟩
  cbv
  cases h0
  exact fin_ok hX rfl ⟨[], _, _, ⟨rfl, rfl⟩, rfl, rfl, rfl, rfl, by cbv; try simp⟩
set_option maxHeartbeats 4000000 in
theorem fn_ref16_repeats {O0 : Ops} (hO0 : O0 = std) {part_1 : Int} {d_1 : Int} {l_1 : List (Int × Int)} {r1 : Bool} (h : m_ref16_repeats O0 part_1 d_1 l_1 = some r1) :
    Fn Try.prog 89 [.c (.int .i64 part_1), .c (.sl 0), .c (.int .i64 d_1)] [.arr false .i2 l_1] (fun v c => v = .c (.bool r1) ∧ c = []) := by
  refine fn_run tab_holds eqs_holds mixed [(4, (.seg 1 [0, 1, 2, 3, 4, 5, 6, 7, 8, 9, 10, 11, 12, 13, 14, 15, 16, 17, 18, 19, 20, 21, 22, 23, 24, 25, 26, 27, 28, 29, 30, 31] .fin), [])] Try.func89 (by kernel_rfl) (by kernel_rfl) (Nat.le_of_ble_eq_true rfl) ?_
  intro O X hO hX
  rw [hO0, ← hO] at h
  unfold m_ref16_repeats at h
  have h0 := h; clear h
  cbv
  obtain ⟨e1, hi, h0⟩ := bindS h0
  obtain ⟨I1, hI1, hi⟩ := loopS hi
  refine loop1 tab_holds eqs_holds mixed [(4, (.seg 1 [0, 1, 2, 3, 4, 5, 6, 7, 8, 9, 10, 11, 12, 13, 14, 15, 16, 17, 18, 19, 20, 21, 22, 23, 24, 25, 26, 27, 28, 29, 30, 31] .fin), [])] hO hX I1 (fun y => [(7, .c (.int .i64 y.2))]) (fun _ => []) (fun y => y.1) _ (by kernel_rfl) hi (by cbv; try simp) ?_
  rintro ⟨n1, i4⟩ hi
  cbv
  rw [hI1] at hi
  obtain ⟨n1, rfl, x1, h1, hi1⟩ := iterS hi
  unfold m_ref16_repeats_L1 at h1
  try dsimp only at h1
  rcases condS h1 with ⟨hc0, h1⟩ | ⟨hc0, h1⟩
  · rw [hc0]
    cbv
    obtain ⟨x83, h2, h1⟩ := bindS h1
    rcases condS h2 with ⟨hc1, h2⟩ | ⟨hc1, h2⟩
    · rw [hc1]
      cbv
      obtain ⟨hg2, h2⟩ := grdS h2
      refine ⟨idx_of hO hg2, ?_⟩
      obtain ⟨hg3, h2⟩ := grdS h2
      refine ⟨kin_of hO hg3, ?_⟩
      obtain ⟨hg4, h2⟩ := grdS h2
      refine ⟨inr_of hO hg4, ?_⟩
      obtain ⟨hg5, h2⟩ := grdS h2
      refine ⟨idx_of hO hg5, ?_⟩
      obtain ⟨hg6, h2⟩ := grdS h2
      refine ⟨kin_of hO hg6, ?_⟩
      obtain ⟨hg7, h2⟩ := grdS h2
      refine ⟨inr_of hO hg7, ?_⟩
      cases h2
      try dsimp only at h1
      replace h1 := condT h1 rfl
      cases h1
      cases exitI hi1
      try dsimp only at h0
      cases h0
      exact fin_ok hX rfl ⟨[], _, _, ⟨rfl, rfl⟩, rfl, rfl, rfl, rfl, by cbv; try simp⟩
    · rw [hc1]
      cbv
      obtain ⟨hg2, h2⟩ := grdS h2
      refine ⟨idx_of hO hg2, ?_⟩
      obtain ⟨hg3, h2⟩ := grdS h2
      refine ⟨kin_of hO hg3, ?_⟩
      obtain ⟨hg4, h2⟩ := grdS h2
      refine ⟨inr_of hO hg4, ?_⟩
      obtain ⟨hg5, h2⟩ := grdS h2
      refine ⟨idx_of hO hg5, ?_⟩
      obtain ⟨hg6, h2⟩ := grdS h2
      refine ⟨kin_of hO hg6, ?_⟩
      obtain ⟨hg7, h2⟩ := grdS h2
      refine ⟨inr_of hO hg7, ?_⟩
      refine ⟨idx_of hO hg2, ?_⟩
      refine ⟨kin_of hO hg3, ?_⟩
      refine ⟨inr_of hO hg4, ?_⟩
      refine ⟨idx_of hO hg5, ?_⟩
      refine ⟨kin_of hO hg6, ?_⟩
      obtain ⟨hg8, h2⟩ := grdS h2
      refine ⟨inr_of hO hg8, ?_⟩
      cases h2
      try dsimp only at h1
      rcases condS h1 with ⟨hc9, h1⟩ | ⟨hc9, h1⟩
      · rw [hc9]
        cbv
        cases h1
        cases exitI hi1
        try dsimp only at h0
        cases h0
        exact fin_ok hX rfl ⟨[], _, _, ⟨rfl, rfl⟩, rfl, rfl, rfl, rfl, by cbv; try simp⟩
      · rw [hc9]
        cbv
        obtain ⟨hg10, h1⟩ := grdS h1
        refine ⟨inr_of hO hg10, ?_⟩
        cases h1
        exact ⟨_, [0], nextI hI1 hi1, by cbv; try simp, by first | exact Nat.lt_succ_self _ | omega⟩
  · rw [hc0]
    cbv
    cases h1
    cases exitI hi1
    try dsimp only at h0
    cases h0
    exact fin_ok hX rfl ⟨[], _, _, ⟨rfl, rfl⟩, rfl, rfl, rfl, rfl, by cbv; try simp⟩
set_option maxHeartbeats 4000000 in
theorem fn_ref16_least {O0 : Ops} (hO0 : O0 = std) {period_1 : Int} {l_1 : List (Int × Int)} {r1 : Int} (h : m_ref16_least O0 period_1 l_1 = some r1) :
    Fn Try.prog 51 [.c (.int .i64 period_1), .c (.sl 0)] [.arr false .i2 l_1] (fun v c => v = .c (.int .i64 r1) ∧ c = []) := by
  refine fn_run tab_holds eqs_holds mixed [] Try.func51 (by kernel_rfl) (by kernel_rfl) (Nat.le_of_ble_eq_true rfl) ?_
  intro O X hO hX
  rw [hO0, ← hO] at h
  unfold m_ref16_least at h
  have h0 := h; clear h
  cbv
  obtain ⟨e1, hi, h0⟩ := bindS h0
  obtain ⟨I1, hI1, hi⟩ := loopS hi
  refine loop1 tab_holds eqs_holds mixed [] hO hX I1 (fun y => [(6, .c (.int .i64 y.2))]) (fun _ => []) (fun y => y.1) _ (by kernel_rfl) hi (by cbv; try simp) ?_
  rintro ⟨n1, d1⟩ hi
  cbv
  rw [hI1] at hi
  obtain ⟨n1, rfl, x1, h1, hi1⟩ := iterS hi
  unfold m_ref16_least_L1 at h1
  try dsimp only at h1
  rcases condS h1 with ⟨hc0, h1⟩ | ⟨hc0, h1⟩
  · rw [hc0]
    cbv
    obtain ⟨x86, h2, h1⟩ := bindS h1
    rcases condS h2 with ⟨hc1, h2⟩ | ⟨hc1, h2⟩
    · rw [hc1]
      cbv
      rcases condS h2 with ⟨hc2, h2⟩ | ⟨hc2, h2⟩
      · rw [hc2]
        cbv
        obtain ⟨hg3, h2⟩ := grdS h2
        refine ⟨nz_of hO hg3, ?_⟩
        refine ⟨nz_of hO hg3, ?_⟩
        obtain ⟨hg4, h2⟩ := grdS h2
        refine ⟨inr_of hO hg4, ?_⟩
        obtain ⟨hg5, h2⟩ := grdS h2
        refine ⟨nz_of hO hg5, ?_⟩
        refine ⟨nz_of hO hg3, ?_⟩
        refine ⟨inr_of hO hg4, ?_⟩
        refine ⟨nz_of hO hg5, ?_⟩
        obtain ⟨hg6, h2⟩ := grdS h2
        refine ⟨inr_of hO hg6, ?_⟩
        obtain ⟨b22, hv, h2⟩ := bindS h2
        refine call_go hO hX (fn_ref16_repeats hO hv) (by kernel_rfl) [0] rfl ⟨rfl, rfl, trivial⟩ rfl ?_
        rintro _ _ ⟨rfl, rfl⟩
        cbv
        cases h2
        try dsimp only at h1
        rcases condS h1 with ⟨hc7, h1⟩ | ⟨hc7, h1⟩
        · rw [hc7]
          cbv
          cases h1
          cases exitI hi1
          try dsimp only at h0
          cases h0
          exact fin_ok hX rfl ⟨[], _, _, ⟨rfl, rfl⟩, rfl, rfl, rfl, rfl, by cbv; try simp⟩
        · rw [hc7]
          cbv
          obtain ⟨hg8, h1⟩ := grdS h1
          refine ⟨inr_of hO hg8, ?_⟩
          cases h1
          exact ⟨_, [0], nextI hI1 hi1, by cbv; try simp, by first | exact Nat.lt_succ_self _ | omega⟩
      · rw [hc2]
        cbv
        obtain ⟨hg3, h2⟩ := grdS h2
        refine ⟨nz_of hO hg3, ?_⟩
        refine ⟨nz_of hO hg3, ?_⟩
        obtain ⟨hg4, h2⟩ := grdS h2
        refine ⟨inr_of hO hg4, ?_⟩
        obtain ⟨hg5, h2⟩ := grdS h2
        refine ⟨nz_of hO hg5, ?_⟩
        cases h2
        try dsimp only at h1
        replace h1 := condF h1 rfl
        obtain ⟨hg6, h1⟩ := grdS h1
        refine ⟨inr_of hO hg6, ?_⟩
        cases h1
        exact ⟨_, [0], nextI hI1 hi1, by cbv; try simp, by first | exact Nat.lt_succ_self _ | omega⟩
    · rw [hc1]
      cbv
      obtain ⟨hg2, h2⟩ := grdS h2
      refine ⟨nz_of hO hg2, ?_⟩
      cases h2
      try dsimp only at h1
      replace h1 := condF h1 rfl
      obtain ⟨hg3, h1⟩ := grdS h1
      refine ⟨inr_of hO hg3, ?_⟩
      cases h1
      exact ⟨_, [0], nextI hI1 hi1, by cbv; try simp, by first | exact Nat.lt_succ_self _ | omega⟩
  · rw [hc0]
    cbv
    cases h1
    cases exitI hi1
    try dsimp only at h0
    cases h0
    exact fin_ok hX rfl ⟨[], _, _, ⟨rfl, rfl⟩, rfl, rfl, rfl, rfl, by cbv; try simp⟩
end Go.Proofs.Ytoklfjkanipjkaa
