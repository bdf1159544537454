/-
  The code does what its models say (printed by lift.py).
-/
import Derived.Test.YtoklfjkanipjkaaGM
import Derived.Test.YtoklfjkanipjkaaManW
import Derived.Test.YtoklfjkanipjkaaGW4
import Derived.Test.YtoklfjkanipjkaaGW5
import Derived.Test.YtoklfjkanipjkaaGW6
import Derived.Test.YtoklfjkanipjkaaGW7
import Derived.Test.YtoklfjkanipjkaaGW8
namespace Go.Proofs.Ytoklfjkanipjkaa
open Go.RowKit
set_option maxRecDepth 100000

set_option maxHeartbeats 4000000 in
theorem fn_ref16_Groups {O0 : Ops} (hO0 : O0 = std) {c_1 : Int} {c_2 : Int} {first_1 : Int} {m_1 : Int} {c_3 : List (Int × Int)} {r1 : Int} {r2 : Int} {r3 : List (Int × Int)} {r4 : Int} (h : m_ref16_Groups O0 c_1 c_2 first_1 m_1 c_3 = some (r1, r2, r3, r4)) :
    Fn Try.prog 18 [.agg [.int .i64 c_1, .int .i64 c_2, .sl 0], .c (.int .i64 first_1), .c (.int .i64 m_1)] [.arr false .i2 c_3] (fun v c => v = .tup [.many [.int .i64 r1, .int .i64 r2, .sl 1], .one (.int .i64 r4)] ∧ c = [.arr true .i2 r3]) := by
  refine fn_run tab_holds eqs_holds mixed [(5, (.seg 1 [0, 1, 2, 3, 4, 5, 6] .fin), []), (13, (.seg 1 [0, 1, 2, 3, 4, 5, 6, 9, 10, 11, 12, 13, 14, 15, 16] (.seg 2 [7] (.seg 1 [8] (.seg 2 [17] (.seg 1 [18, 19] (.seg 2 [20] .fin)))))), [21, 22]), (14, (.seg 1 [0, 1, 2, 3, 4, 5, 6] (.seg 2 [7] (.seg 1 [8, 9] .fin))), [10, 11])] Try.func18 (by kernel_rfl) (by kernel_rfl) (Nat.le_of_ble_eq_true rfl) ?_
  intro O X hO hX
  rw [hO0, ← hO] at h
  unfold m_ref16_Groups at h
  have h0 := h; clear h
  cbv
  obtain ⟨x93, h1, h0⟩ := bindS h0
  rcases condS h1 with ⟨hc0, h1⟩ | ⟨hc0, h1⟩
  · rw [hc0]
    cbv
    cases h1
    try dsimp only at h0
    replace h0 := condT h0 rfl
    cases h0
    refine fin_nil hX .i2 3 rfl ?_
    cbv
    exact fin_ok hX rfl ⟨[3], _, _, ⟨rfl, rfl⟩, rfl, rfl, rfl, rfl, by cbv; try simp⟩
  · rw [hc0]
    cbv
    rcases condS h1 with ⟨hc1, h1⟩ | ⟨hc1, h1⟩
    · rw [hc1]
      cbv
      cases h1
      try dsimp only at h0
      replace h0 := condT h0 rfl
      cases h0
      refine fin_nil hX .i2 3 rfl ?_
      cbv
      exact fin_ok hX rfl ⟨[3], _, _, ⟨rfl, rfl⟩, rfl, rfl, rfl, rfl, by cbv; try simp⟩
    · rw [hc1]
      cbv
      rcases condS h1 with ⟨hc2, h1⟩ | ⟨hc2, h1⟩
      · rw [hc2]
        cbv
        cases h1
        try dsimp only at h0
        replace h0 := condT h0 rfl
        cases h0
        refine fin_nil hX .i2 3 rfl ?_
        cbv
        exact fin_ok hX rfl ⟨[3], _, _, ⟨rfl, rfl⟩, rfl, rfl, rfl, rfl, by cbv; try simp⟩
      · rw [hc2]
        cbv
        cases h1
        try dsimp only at h0
        rcases condS h0 with ⟨hc3, h0⟩ | ⟨hc3, h0⟩
        · rw [hc3]
          cbv
          cases h0
          refine fin_nil hX .i2 3 rfl ?_
          cbv
          exact fin_ok hX rfl ⟨[3], _, _, ⟨rfl, rfl⟩, rfl, rfl, rfl, rfl, by cbv; try simp⟩
        · rw [hc3]
          cbv
          obtain ⟨n57, hv, h0⟩ := bindS h0
          refine call_go hO hX (fn_ref01_Gcd hO hv) (by kernel_rfl) [] rfl trivial rfl ?_
          rintro _ _ ⟨rfl, rfl⟩
          cbv
          obtain ⟨hg4, h0⟩ := grdS h0
          refine ⟨nz_of hO hg4, ?_⟩
          obtain ⟨hg5, h0⟩ := grdS h0
          refine ⟨inr_of hO hg5, ?_⟩
          obtain ⟨hg6, h0⟩ := grdS h0
          refine ⟨nz_of hO hg6, ?_⟩
          obtain ⟨hg7, h0⟩ := grdS h0
          refine ⟨inr_of hO hg7, ?_⟩
          rcases condS h0 with ⟨hc8, h0⟩ | ⟨hc8, h0⟩
          · rw [hc8]
            cbv
            cases h0
            refine fin_nil hX .i2 3 rfl ?_
            cbv
            exact fin_ok hX rfl ⟨[3], _, _, ⟨rfl, rfl⟩, rfl, rfl, rfl, rfl, by cbv; try simp⟩
          · rw [hc8]
            cbv
            refine ⟨nz_of hO hg4, ?_⟩
            obtain ⟨hg9, h0⟩ := grdS h0
            refine ⟨inr_of hO hg9, ?_⟩
            rcases condS h0 with ⟨hc10, h0⟩ | ⟨hc10, h0⟩
            · rw [hc10]
              cbv
              cases h0
              refine fin_nil hX .i2 3 rfl ?_
              cbv
              exact fin_ok hX rfl ⟨[3], _, _, ⟨rfl, rfl⟩, rfl, rfl, rfl, rfl, by cbv; try simp⟩
            · rw [hc10]
              cbv
              obtain ⟨l25, hi, h0⟩ := bindS h0
              obtain ⟨I1, hI1, hi⟩ := loopS hi
              refine loop1 tab_holds eqs_holds mixed [(5, (.seg 1 [0, 1, 2, 3, 4, 5, 6] .fin), []), (13, (.seg 1 [0, 1, 2, 3, 4, 5, 6, 9, 10, 11, 12, 13, 14, 15, 16] (.seg 2 [7] (.seg 1 [8] (.seg 2 [17] (.seg 1 [18, 19] (.seg 2 [20] .fin)))))), [21, 22]), (14, (.seg 1 [0, 1, 2, 3, 4, 5, 6] (.seg 2 [7] (.seg 1 [8, 9] .fin))), [10, 11])] hO hX I1 (fun y => [(27, .junk), (36, .junk), (10, .c (.sl 3)), (11, .c (.int .i64 y.2.1))]) (fun y => [(3, .own 49 .i2 y.2.2)]) (fun y => y.1) _ (by kernel_rfl) hi (by cbv; try simp) ?_
              rintro ⟨n1, j2, l24⟩ hi
              cbv
              rw [hI1] at hi
              obtain ⟨n1, rfl, x1, h1, hi1⟩ := iterS hi
              unfold m_ref16_Groups_L1 at h1
              try dsimp only at h1
              refine ⟨nz_of hO hg4, ?_⟩
              refine ⟨inr_of hO hg9, ?_⟩
              rcases condS h1 with ⟨hc11, h1⟩ | ⟨hc11, h1⟩
              · rw [hc11]
                cbv
                obtain ⟨hg12, h1⟩ := grdS h1
                refine ⟨inr_of hO hg12, ?_⟩
                obtain ⟨hg13, h1⟩ := grdS h1
                refine ⟨inr_of hO hg13, ?_⟩
                obtain ⟨hg14, h1⟩ := grdS h1
                refine ⟨inr_of hO hg14, ?_⟩
                obtain ⟨hg15, h1⟩ := grdS h1
                refine ⟨inr_of hO hg15, ?_⟩
                obtain ⟨hg16, h1⟩ := grdS h1
                refine ⟨inr_of hO hg16, ?_⟩
                obtain ⟨hg17, h1⟩ := grdS h1
                refine ⟨inr_of hO hg17, ?_⟩
                obtain ⟨⟨n66, n67⟩, hv, h1⟩ := bindS h1
                try dsimp only at h1
                refine call_go hO hX (fn_ref16_Granule hO hv) (by kernel_rfl) [0] rfl ⟨rfl, rfl, trivial⟩ rfl ?_
                rintro _ _ ⟨rfl, rfl⟩
                cbv
                obtain ⟨⟨n68, n69⟩, hv, h1⟩ := bindS h1
                try dsimp only at h1
                refine call_go hO hX (fn_ref16_Granule hO hv) (by kernel_rfl) [0] rfl ⟨rfl, rfl, trivial⟩ rfl ?_
                rintro _ _ ⟨rfl, rfl⟩
                cbv
                obtain ⟨hg18, h1⟩ := grdS h1
                refine ⟨room_of hO hg18, ?_⟩
                obtain ⟨hg19, h1⟩ := grdS h1
                refine ⟨room_of hO hg19, ?_⟩
                refine ⟨inr_of hO hg14, ?_⟩
                cases h1
                exact ⟨_, [0, 1, 2, 5], nextI hI1 hi1, by cbv; try simp, by first | exact Nat.lt_succ_self _ | omega⟩
              · rw [hc11]
                cbv
                cases h1
                cases exitI hi1
                try dsimp only at h0
                refine ⟨nz_of hO hg4, ?_⟩
                refine ⟨inr_of hO hg5, ?_⟩
                obtain ⟨hg12, h0⟩ := grdS h0
                refine ⟨inr_of hO hg12, ?_⟩
                obtain ⟨⟨n71, n72, l28, n73⟩, hv, h0⟩ := bindS h0
                try dsimp only at h0
                refine call_go hO hX (fn_ref16_Make hO hv) (by kernel_rfl) [3] rfl ⟨rfl, rfl, trivial⟩ rfl ?_
                rintro _ _ ⟨rfl, rfl⟩
                cbv
                cases h0
                exact fin_ok hX rfl ⟨[4], _, _, ⟨rfl, rfl⟩, rfl, rfl, rfl, rfl, by cbv; try simp⟩
set_option maxHeartbeats 4000000 in
theorem fn_law16_GroupGroups {O0 : Ops} (hO0 : O0 = std) {c_1 : Int} {c_2 : Int} {first_1 : Int} {m_1 : Int} {c_3 : List (Int × Int)} {r1 : Bool} (h : m_law16_GroupGroups O0 c_1 c_2 first_1 m_1 c_3 = some r1) :
    Fn Try.prog 3 [.agg [.int .i64 c_1, .int .i64 c_2, .sl 0], .c (.int .i64 first_1), .c (.int .i64 m_1)] [.arr false .i2 c_3] (fun v c => v = .c (.bool r1) ∧ c = []) := by
  refine fn_run tab_holds eqs_holds mixed [] Try.func3 (by kernel_rfl) (by kernel_rfl) (Nat.le_of_ble_eq_true rfl) ?_
  intro O X hO hX
  rw [hO0, ← hO] at h
  unfold m_law16_GroupGroups at h
  have h0 := h; clear h
  cbv
  obtain ⟨b18, hv, h0⟩ := bindS h0
  refine call_go hO hX (fn_law16_awake hO hv) (by kernel_rfl) [] rfl trivial rfl ?_
  rintro _ _ ⟨rfl, rfl⟩
  cbv
  rcases condS h0 with ⟨hc0, h0⟩ | ⟨hc0, h0⟩
  · rw [hc0]
    cbv
    cases h0
    exact fin_ok hX rfl ⟨[], _, _, ⟨rfl, rfl⟩, rfl, rfl, rfl, rfl, by cbv; try simp⟩
  · rw [hc0]
    cbv
    obtain ⟨b21, hv, h0⟩ := bindS h0
    refine call_go hO hX (fn_law16_great hO hv) (by kernel_rfl) [2, 0] rfl ⟨rfl, rfl, rfl, rfl, trivial⟩ rfl ?_
    rintro _ _ ⟨rfl, rfl⟩
    cbv
    rcases condS h0 with ⟨hc1, h0⟩ | ⟨hc1, h0⟩
    · rw [hc1]
      cbv
      cases h0
      exact fin_ok hX rfl ⟨[], _, _, ⟨rfl, rfl⟩, rfl, rfl, rfl, rfl, by cbv; try simp⟩
    · rw [hc1]
      cbv
      obtain ⟨⟨n53, n54, l23, n55⟩, hv, h0⟩ := bindS h0
      try dsimp only at h0
      refine call_go hO hX (fn_group_Groups hO hv) (by kernel_rfl) [0] rfl ⟨rfl, rfl, trivial⟩ rfl ?_
      rintro _ _ ⟨rfl, rfl⟩
      cbv
      obtain ⟨b23, hv, h0⟩ := bindS h0
      refine call_go hO hX (fn_ref16_Valid hO hv) (by kernel_rfl) [0] rfl ⟨rfl, rfl, trivial⟩ rfl ?_
      rintro _ _ ⟨rfl, rfl⟩
      cbv
      rcases condS h0 with ⟨hc2, h0⟩ | ⟨hc2, h0⟩
      · rw [hc2]
        cbv
        refine call_nil hO hX .i2 5 rfl ?_
        cbv
        obtain ⟨b26, hv, h0⟩ := bindS h0
        refine call_go hO hX (fn_law16_is hO hv) (by kernel_rfl) [3, 5] rfl ⟨rfl, rfl, rfl, rfl, trivial⟩ rfl ?_
        rintro _ _ ⟨rfl, rfl⟩
        cbv
        cases h0
        exact fin_ok hX rfl ⟨[], _, _, ⟨rfl, rfl⟩, rfl, rfl, rfl, rfl, by cbv; try simp⟩
      · rw [hc2]
        cbv
        obtain ⟨⟨n74, n75, l29, n76⟩, hv, h0⟩ := bindS h0
        try dsimp only at h0
        refine call_go hO hX (fn_ref16_Groups hO hv) (by kernel_rfl) [0] rfl ⟨rfl, rfl, trivial⟩ rfl ?_
        rintro _ _ ⟨rfl, rfl⟩
        cbv
        obtain ⟨b28, hv, h0⟩ := bindS h0
        refine call_go hO hX (fn_law16_is hO hv) (by kernel_rfl) [3, 5] rfl ⟨rfl, rfl, rfl, rfl, trivial⟩ rfl ?_
        rintro _ _ ⟨rfl, rfl⟩
        cbv
        cases h0
        exact fin_ok hX rfl ⟨[], _, _, ⟨rfl, rfl⟩, rfl, rfl, rfl, rfl, by cbv; try simp⟩
set_option maxHeartbeats 4000000 in
theorem fn_group_Split_1 {O0 : Ops} (hO0 : O0 = std) {s_1 : Int} {s_2 : Int} {x_1 : Int} {r1 : Bool} (h : m_group_Split_1 O0 s_1 s_2 x_1 = some r1) :
    Fn Try.prog 56 [.agg [.int .i64 s_1, .int .i64 s_2], .c (.ptr 0 0)] [.ro 3 [.int .i64 x_1]] (fun v c => v = .c (.bool r1) ∧ c = []) := by
  refine fn_run tab_holds eqs_holds mixed [] Try.func56 (by kernel_rfl) (by kernel_rfl) (Nat.le_of_ble_eq_true rfl) ?_
  intro O X hO hX
  rw [hO0, ← hO] at h
  unfold m_group_Split_1 at h
  have h0 := h; clear h
  cbv
  obtain ⟨hg0, h0⟩ := grdS h0
  refine ⟨inr_of hO hg0, ?_⟩
  obtain ⟨hg1, h0⟩ := grdS h0
  refine ⟨nz_of hO hg1, ?_⟩
  cases h0
  exact fin_ok hX rfl ⟨[], _, _, ⟨rfl, rfl⟩, rfl, rfl, rfl, rfl, by cbv; try simp⟩
set_option maxHeartbeats 4000000 in
theorem fn_slices_IndexFunc_3 {O0 : Ops} (hO0 : O0 = std) {s_1 : List (Int × Int)} {c_1 : Int} {r1 : Int} (h : m_slices_IndexFunc_3 O0 s_1 c_1 = some r1) :
    Fn Try.prog 91 [.c (.sl 0), .c (.fn 56 [1])] [.arr false .i2 s_1, .ro 3 [.int .i64 c_1]] (fun v c => v = .c (.int .i64 r1) ∧ c = []) := by
  refine fn_run tab_holds eqs_holds mixed [] Try.func91 (by kernel_rfl) (by kernel_rfl) (Nat.le_of_ble_eq_true rfl) ?_
  intro O X hO hX
  rw [hO0, ← hO] at h
  unfold m_slices_IndexFunc_3 at h
  have h0 := h; clear h
  cbv
  obtain ⟨e1, hi, h0⟩ := bindS h0
  obtain ⟨I1, hI1, hi⟩ := loopS hi
  refine loop1 tab_holds eqs_holds mixed [] hO hX I1 (fun y => [(8, .c (.int .i64 y.2))]) (fun _ => []) (fun y => y.1) _ (by kernel_rfl) hi (by cbv; try simp) ?_
  rintro ⟨n1, x102⟩ hi
  cbv
  rw [hI1] at hi
  obtain ⟨n1, rfl, x1, h1, hi1⟩ := iterS hi
  unfold m_slices_IndexFunc_3_L1 at h1
  try dsimp only at h1
  rcases condS h1 with ⟨hc0, h1⟩ | ⟨hc0, h1⟩
  · rw [hc0]
    cbv
    obtain ⟨hg1, h1⟩ := grdS h1
    refine ⟨idx_of hO hg1, ?_⟩
    obtain ⟨hg2, h1⟩ := grdS h1
    refine ⟨kin_of hO hg2, ?_⟩
    obtain ⟨b32, hv, h1⟩ := bindS h1
    refine call_go hO hX (fn_group_Split_1 hO hv) (by kernel_rfl) [1] rfl ⟨rfl, rfl, trivial⟩ rfl ?_
    rintro _ _ ⟨rfl, rfl⟩
    cbv
    rcases condS h1 with ⟨hc3, h1⟩ | ⟨hc3, h1⟩
    · rw [hc3]
      cbv
      cases h1
      cases exitI hi1
      try dsimp only at h0
      cases h0
      exact fin_ok hX rfl ⟨[], _, _, ⟨rfl, rfl⟩, rfl, rfl, rfl, rfl, by cbv; try simp⟩
    · rw [hc3]
      cbv
      obtain ⟨hg4, h1⟩ := grdS h1
      refine ⟨inr_of hO hg4, ?_⟩
      cases h1
      exact ⟨_, [0, 1], nextI hI1 hi1, by cbv; try simp, by first | exact Nat.lt_succ_self _ | omega⟩
  · rw [hc0]
    cbv
    cases h1
    cases exitI hi1
    try dsimp only at h0
    cases h0
    exact fin_ok hX rfl ⟨[], _, _, ⟨rfl, rfl⟩, rfl, rfl, rfl, rfl, by cbv; try simp⟩
set_option maxHeartbeats 4000000 in
theorem fn_slices_ContainsFunc_3 {O0 : Ops} (hO0 : O0 = std) {s_1 : List (Int × Int)} {c_1 : Int} {r1 : Bool} (h : m_slices_ContainsFunc_3 O0 s_1 c_1 = some r1) :
    Fn Try.prog 55 [.c (.sl 0), .c (.fn 56 [1])] [.arr false .i2 s_1, .ro 3 [.int .i64 c_1]] (fun v c => v = .c (.bool r1) ∧ c = []) := by
  refine fn_run tab_holds eqs_holds mixed [] Try.func55 (by kernel_rfl) (by kernel_rfl) (Nat.le_of_ble_eq_true rfl) ?_
  intro O X hO hX
  rw [hO0, ← hO] at h
  unfold m_slices_ContainsFunc_3 at h
  have h0 := h; clear h
  cbv
  obtain ⟨n77, hv, h0⟩ := bindS h0
  refine call_go hO hX (fn_slices_IndexFunc_3 hO hv) (by kernel_rfl) [0, 1] rfl ⟨rfl, rfl, rfl, rfl, trivial⟩ rfl ?_
  rintro _ _ ⟨rfl, rfl⟩
  cbv
  cases h0
  exact fin_ok hX rfl ⟨[], _, _, ⟨rfl, rfl⟩, rfl, rfl, rfl, rfl, by cbv; try simp⟩
end Go.Proofs.Ytoklfjkanipjkaa
