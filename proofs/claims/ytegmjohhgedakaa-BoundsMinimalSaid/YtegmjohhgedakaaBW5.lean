/-
  The code does what its models say (printed by lift.py).
-/
import Derived.Test.YtegmjohhgedakaaBM
import Derived.Test.YtegmjohhgedakaaSrtB
namespace Go.Proofs.Ytegmjohhgedakaa
open Go.RowKit
set_option maxRecDepth 100000

set_option maxHeartbeats 40000000 in
theorem fn_ref45_Tight {O0 : Ops} (hO0 : O0 = std) {n_1 : Int} {l_1 : List (Int × Int × Int)} {r1 : List (List Int)} {r2 : Bool} (h : m_ref45_Tight O0 n_1 l_1 = some (r1, r2)) :
    Fn Try.prog 17 [.c (.int .i64 n_1), .c (.sl 0)] [.arr false .i3 l_1] (fun v c => v = .tup [.one (.sl 1), .one (.bool r2)] ∧ c = [.mat true r1]) := by
  refine fn_run tab_holds eqs_holds mixed [(15, (.seg 1 [0, 1, 2, 3, 4, 5, 6, 7, 8, 9, 10, 11, 12, 13, 14, 15, 16, 17, 18, 19, 20, 21, 22, 23, 24, 25, 26, 27, 28, 29, 30, 31, 32, 33, 34] .fin), [35]), (26, (.seg 1 [0, 1, 2, 3, 4, 5, 6, 7, 8, 9, 10, 11, 12, 13, 14, 15, 16, 17, 18, 19, 20, 21, 22, 23, 24, 25, 26, 27, 28] .fin), [29])] Try.func17 (by kernel_rfl) (by kernel_rfl) (Nat.le_of_ble_eq_true rfl) ?_
  intro O X hO hX
  rw [hO0, ← hO] at h
  unfold m_ref45_Tight at h
  have h0 := h; clear h
  cbv
  obtain ⟨m22, hi, h0⟩ := bindS h0
  obtain ⟨I2, hI2, hi⟩ := loopS hi
  refine loop1 tab_holds eqs_holds mixed [(15, (.seg 1 [0, 1, 2, 3, 4, 5, 6, 7, 8, 9, 10, 11, 12, 13, 14, 15, 16, 17, 18, 19, 20, 21, 22, 23, 24, 25, 26, 27, 28, 29, 30, 31, 32, 33, 34] .fin), [35]), (26, (.seg 1 [0, 1, 2, 3, 4, 5, 6, 7, 8, 9, 10, 11, 12, 13, 14, 15, 16, 17, 18, 19, 20, 21, 22, 23, 24, 25, 26, 27, 28] .fin), [29])] hO hX I2 (fun y => [(4, .junk), (6, .c (.sl 2)), (7, .c (.int .i64 y.2.1))]) (fun y => [(2, .mtw 26 3 y.2.2)]) (fun y => y.1) _ (by kernel_rfl) hi (by cbv; try simp) ?_
  refine allp ?_
  intro n2
  refine allp ?_
  intro i6
  intro m21 hi
  cbv
  rw [hI2] at hi
  obtain ⟨n2, rfl, x2, h1, hi2⟩ := iterS hi
  unfold m_ref45_Tight_L2 at h1
  try dsimp only at h1
  rcases condS h1 with ⟨hc1, h1⟩ | ⟨hc1, h1⟩
  · rw [hc1]
    cbv
    obtain ⟨hg2, h1⟩ := grdS h1
    refine ⟨rng_of hO hg2, ?_⟩
    refine ⟨rng_of hO hg2, ?_⟩
    obtain ⟨hg3, h1⟩ := grdS h1
    refine ⟨room_of hO hg3, ?_⟩
    obtain ⟨l50, hi, h1⟩ := bindS h1
    obtain ⟨I1, hI1, hi⟩ := loopS hi
    refine loop1 tab_holds eqs_holds mixed [(15, (.seg 1 [0, 1, 2, 3, 4, 5, 6, 7, 8, 9, 10, 11, 12, 13, 14, 15, 16, 17, 18, 19, 20, 21, 22, 23, 24, 25, 26, 27, 28, 29, 30, 31, 32, 33, 34] .fin), [35]), (26, (.seg 1 [0, 1, 2, 3, 4, 5, 6, 7, 8, 9, 10, 11, 12, 13, 14, 15, 16, 17, 18, 19, 20, 21, 22, 23, 24, 25, 26, 27, 28] .fin), [29])] hO hX I1 (fun y => [(20, .junk), (9, .c (.int .i64 y.2.1))]) (fun y => [(3, .own 3 .i1 y.2.2)]) (fun y => y.1) _ (by kernel_rfl) hi (by cbv; try simp) ?_
    refine allp ?_
    intro n1
    refine allp ?_
    intro j6
    intro l49 hi
    cbv
    rw [hI1] at hi
    obtain ⟨n1, rfl, x1, h2, hi1⟩ := iterS hi
    unfold m_ref45_Tight_L1 at h2
    try dsimp only at h2
    rcases condS h2 with ⟨hc4, h2⟩ | ⟨hc4, h2⟩
    · rw [hc4]
      cbv
      obtain ⟨hg5, h2⟩ := grdS h2
      refine ⟨idx_of hO hg5, ?_⟩
      obtain ⟨hg6, h2⟩ := grdS h2
      refine ⟨kin_of hO hg6, ?_⟩
      obtain ⟨hg7, h2⟩ := grdS h2
      refine ⟨inr_of hO hg7, ?_⟩
      cases h2
      exact ⟨_, [0, 1, 2, 3], nextI hI1 hi1, by cbv; try simp, by first | exact Nat.lt_succ_self _ | omega⟩
    · rw [hc4]
      cbv
      cases h2
      cases exitI hi1
      try dsimp only at h1
      obtain ⟨hg8, h1⟩ := grdS h1
      refine ⟨idx_of hO hg8, ?_⟩
      obtain ⟨hg9, h1⟩ := grdS h1
      refine ⟨kin_of hO hg9, ?_⟩
      obtain ⟨hg10, h1⟩ := grdS h1
      refine ⟨room_of hO hg10, ?_⟩
      obtain ⟨hg11, h1⟩ := grdS h1
      refine ⟨inr_of hO hg11, ?_⟩
      cases h1
      exact ⟨_, [0, 1, 5], nextI hI2 hi2, by cbv; try simp, by first | exact Nat.lt_succ_self _ | omega⟩
  · rw [hc1]
    cbv
    cases h1
    cases exitI hi2
    try dsimp only at h0
    obtain ⟨m24, hi, h0⟩ := bindS h0
    obtain ⟨I3, hI3, hi⟩ := loopS hi
    refine loop1 tab_holds eqs_holds mixed [(15, (.seg 1 [0, 1, 2, 3, 4, 5, 6, 7, 8, 9, 10, 11, 12, 13, 14, 15, 16, 17, 18, 19, 20, 21, 22, 23, 24, 25, 26, 27, 28, 29, 30, 31, 32, 33, 34] .fin), [35]), (26, (.seg 1 [0, 1, 2, 3, 4, 5, 6, 7, 8, 9, 10, 11, 12, 13, 14, 15, 16, 17, 18, 19, 20, 21, 22, 23, 24, 25, 26, 27, 28] .fin), [29])] hO hX I3 (fun y => [(10, .c (.int .i64 y.2.1))]) (fun y => [(2, .mtw 26 3 y.2.2)]) (fun y => y.1) _ (by kernel_rfl) hi (by cbv; try simp) ?_
    refine allp ?_
    intro n3
    refine allp ?_
    intro i8
    intro m23 hi
    cbv
    rw [hI3] at hi
    obtain ⟨n3, rfl, x3, h1, hi3⟩ := iterS hi
    unfold m_ref45_Tight_L3 at h1
    try dsimp only at h1
    rcases condS h1 with ⟨hc12, h1⟩ | ⟨hc12, h1⟩
    · rw [hc12]
      cbv
      obtain ⟨hg13, h1⟩ := grdS h1
      refine ⟨idx_of hO hg13, ?_⟩
      obtain ⟨hg14, h1⟩ := grdS h1
      refine ⟨kin_of hO hg14, ?_⟩
      obtain ⟨hg15, h1⟩ := grdS h1
      refine ⟨idx_of hO hg15, ?_⟩
      obtain ⟨hg16, h1⟩ := grdS h1
      refine ⟨kin_of hO hg16, ?_⟩
      refine ⟨idx_of hO hg13, ?_⟩
      refine ⟨kin_of hO hg14, ?_⟩
      refine ⟨idx_of hO hg13, ?_⟩
      refine ⟨kin_of hO hg14, ?_⟩
      refine ⟨idx_of hO hg15, ?_⟩
      refine ⟨kin_of hO hg16, ?_⟩
      refine ⟨idx_of hO hg13, ?_⟩
      refine ⟨kin_of hO hg14, ?_⟩
      obtain ⟨hg17, h1⟩ := grdS h1
      refine ⟨idx_of hO hg17, ?_⟩
      obtain ⟨hg18, h1⟩ := grdS h1
      refine ⟨kin_of hO hg18, ?_⟩
      refine ⟨idx_of hO hg13, ?_⟩
      refine ⟨kin_of hO hg14, ?_⟩
      refine ⟨idx_of hO hg17, ?_⟩
      refine ⟨kin_of hO hg18, ?_⟩
      obtain ⟨hg19, h1⟩ := grdS h1
      refine ⟨inr_of hO hg19, ?_⟩
      cases h1
      exact ⟨_, [0, 1, 2], nextI hI3 hi3, by cbv; try simp, by first | exact Nat.lt_succ_self _ | omega⟩
    · rw [hc12]
      cbv
      cases h1
      cases exitI hi3
      try dsimp only at h0
      obtain ⟨e1, hi, h0⟩ := bindS h0
      obtain ⟨I6, hI6, hi⟩ := loopS hi
      refine loop1 tab_holds eqs_holds mixed [(15, (.seg 1 [0, 1, 2, 3, 4, 5, 6, 7, 8, 9, 10, 11, 12, 13, 14, 15, 16, 17, 18, 19, 20, 21, 22, 23, 24, 25, 26, 27, 28, 29, 30, 31, 32, 33, 34] .fin), [35]), (26, (.seg 1 [0, 1, 2, 3, 4, 5, 6, 7, 8, 9, 10, 11, 12, 13, 14, 15, 16, 17, 18, 19, 20, 21, 22, 23, 24, 25, 26, 27, 28] .fin), [29])] hO hX I6 (fun y => [(11, .c (.int .i64 y.2.1))]) (fun y => [(2, .mtw 26 3 y.2.2)]) (fun y => y.1) _ (by kernel_rfl) hi (by cbv; try simp) ?_
      refine allp ?_
      intro n6
      refine allp ?_
      intro k2
      intro m39 hi
      cbv
      rw [hI6] at hi
      obtain ⟨n6, rfl, x6, h1, hi6⟩ := iterS hi
      unfold m_ref45_Tight_L6 at h1
      try dsimp only at h1
      rcases condS h1 with ⟨hc20, h1⟩ | ⟨hc20, h1⟩
      · rw [hc20]
        cbv
        obtain ⟨e2, hi, h1⟩ := bindS h1
        obtain ⟨I5, hI5, hi⟩ := loopS hi
        refine loop1 tab_holds eqs_holds mixed [(15, (.seg 1 [0, 1, 2, 3, 4, 5, 6, 7, 8, 9, 10, 11, 12, 13, 14, 15, 16, 17, 18, 19, 20, 21, 22, 23, 24, 25, 26, 27, 28, 29, 30, 31, 32, 33, 34] .fin), [35]), (26, (.seg 1 [0, 1, 2, 3, 4, 5, 6, 7, 8, 9, 10, 11, 12, 13, 14, 15, 16, 17, 18, 19, 20, 21, 22, 23, 24, 25, 26, 27, 28] .fin), [29])] hO hX I5 (fun y => [(12, .c (.int .i64 y.2.1))]) (fun y => [(2, .mtw 26 3 y.2.2)]) (fun y => y.1) _ (by kernel_rfl) hi (by cbv; try simp) ?_
        refine allp ?_
        intro n5
        refine allp ?_
        intro i12
        intro m46 hi
        cbv
        rw [hI5] at hi
        obtain ⟨n5, rfl, x5, h2, hi5⟩ := iterS hi
        unfold m_ref45_Tight_L5 at h2
        try dsimp only at h2
        rcases condS h2 with ⟨hc21, h2⟩ | ⟨hc21, h2⟩
        · rw [hc21]
          cbv
          obtain ⟨m52, hi, h2⟩ := bindS h2
          obtain ⟨I4, hI4, hi⟩ := loopS hi
          refine loop1 tab_holds eqs_holds mixed [(15, (.seg 1 [0, 1, 2, 3, 4, 5, 6, 7, 8, 9, 10, 11, 12, 13, 14, 15, 16, 17, 18, 19, 20, 21, 22, 23, 24, 25, 26, 27, 28, 29, 30, 31, 32, 33, 34] .fin), [35]), (26, (.seg 1 [0, 1, 2, 3, 4, 5, 6, 7, 8, 9, 10, 11, 12, 13, 14, 15, 16, 17, 18, 19, 20, 21, 22, 23, 24, 25, 26, 27, 28] .fin), [29])] hO hX I4 (fun y => [(13, .c (.int .i64 y.2.1))]) (fun y => [(2, .mtw 26 3 y.2.2)]) (fun y => y.1) _ (by kernel_rfl) hi (by cbv; try simp) ?_
          refine allp ?_
          intro n4
          refine allp ?_
          intro j14
          intro m49 hi
          cbv
          rw [hI4] at hi
          obtain ⟨n4, rfl, x4, h3, hi4⟩ := iterS hi
          unfold m_ref45_Tight_L4 at h3
          try dsimp only at h3
          rcases condS h3 with ⟨hc22, h3⟩ | ⟨hc22, h3⟩
          · rw [hc22]
            cbv
            obtain ⟨x83, h4, h3⟩ := bindS h3
            rcases condS h4 with ⟨hc23, h4⟩ | ⟨hc23, h4⟩
            · rw [hc23]
              cbv
              obtain ⟨hg24, h4⟩ := grdS h4
              refine ⟨idx_of hO hg24, ?_⟩
              obtain ⟨hg25, h4⟩ := grdS h4
              refine ⟨kin_of hO hg25, ?_⟩
              obtain ⟨hg26, h4⟩ := grdS h4
              refine ⟨idx_of hO hg26, ?_⟩
              obtain ⟨hg27, h4⟩ := grdS h4
              refine ⟨kin_of hO hg27, ?_⟩
              obtain ⟨hg28, h4⟩ := grdS h4
              refine ⟨idx_of hO hg28, ?_⟩
              obtain ⟨hg29, h4⟩ := grdS h4
              refine ⟨kin_of hO hg29, ?_⟩
              obtain ⟨hg30, h4⟩ := grdS h4
              refine ⟨idx_of hO hg30, ?_⟩
              obtain ⟨hg31, h4⟩ := grdS h4
              refine ⟨kin_of hO hg31, ?_⟩
              cases h4
              try dsimp only at h3
              obtain ⟨m51, h4, h3⟩ := bindS h3
              rcases condS h4 with ⟨hc32, h4⟩ | ⟨hc32, h4⟩
              · rw [hc32]
                cbv
                refine ⟨idx_of hO hg24, ?_⟩
                refine ⟨kin_of hO hg25, ?_⟩
                refine ⟨idx_of hO hg24, ?_⟩
                refine ⟨kin_of hO hg25, ?_⟩
                obtain ⟨hg33, h4⟩ := grdS h4
                refine ⟨idx_of hO hg33, ?_⟩
                obtain ⟨hg34, h4⟩ := grdS h4
                refine ⟨kin_of hO hg34, ?_⟩
                refine ⟨idx_of hO hg24, ?_⟩
                refine ⟨kin_of hO hg25, ?_⟩
                refine ⟨idx_of hO hg26, ?_⟩
                refine ⟨kin_of hO hg27, ?_⟩
                obtain ⟨hg35, h4⟩ := grdS h4
                refine ⟨idx_of hO hg35, ?_⟩
                obtain ⟨hg36, h4⟩ := grdS h4
                refine ⟨kin_of hO hg36, ?_⟩
                obtain ⟨hg37, h4⟩ := grdS h4
                refine ⟨idx_of hO hg37, ?_⟩
                obtain ⟨hg38, h4⟩ := grdS h4
                refine ⟨kin_of hO hg38, ?_⟩
                obtain ⟨hg39, h4⟩ := grdS h4
                refine ⟨inr_of hO hg39, ?_⟩
                cases h4
                try dsimp only at h3
                refine ⟨idx_of hO hg33, ?_⟩
                refine ⟨kin_of hO hg34, ?_⟩
                obtain ⟨hg40, h3⟩ := grdS h3
                refine ⟨inr_of hO hg40, ?_⟩
                cases h3
                exact ⟨_, [0, 1, 2], nextI hI4 hi4, by cbv; try simp, by first | exact Nat.lt_succ_self _ | omega⟩
              · rw [hc32]
                cbv
                cases h4
                try dsimp only at h3
                obtain ⟨hg41, h3⟩ := grdS h3
                refine ⟨inr_of hO hg41, ?_⟩
                cases h3
                exact ⟨_, [0, 1, 2], nextI hI4 hi4, by cbv; try simp, by first | exact Nat.lt_succ_self _ | omega⟩
            · rw [hc23]
              cbv
              obtain ⟨hg42, h4⟩ := grdS h4
              refine ⟨idx_of hO hg42, ?_⟩
              obtain ⟨hg43, h4⟩ := grdS h4
              refine ⟨kin_of hO hg43, ?_⟩
              obtain ⟨hg44, h4⟩ := grdS h4
              refine ⟨idx_of hO hg44, ?_⟩
              obtain ⟨hg45, h4⟩ := grdS h4
              refine ⟨kin_of hO hg45, ?_⟩
              cases h4
              try dsimp only at h3
              obtain ⟨m51, h4, h3⟩ := bindS h3
              replace h4 := condF h4 rfl
              cases h4
              try dsimp only at h3
              obtain ⟨hg46, h3⟩ := grdS h3
              refine ⟨inr_of hO hg46, ?_⟩
              cases h3
              exact ⟨_, [0, 1, 2], nextI hI4 hi4, by cbv; try simp, by first | exact Nat.lt_succ_self _ | omega⟩
          · rw [hc22]
            cbv
            cases h3
            cases exitI hi4
            try dsimp only at h2
            obtain ⟨hg47, h2⟩ := grdS h2
            refine ⟨idx_of hO hg47, ?_⟩
            obtain ⟨hg48, h2⟩ := grdS h2
            refine ⟨kin_of hO hg48, ?_⟩
            obtain ⟨hg49, h2⟩ := grdS h2
            refine ⟨idx_of hO hg49, ?_⟩
            obtain ⟨hg50, h2⟩ := grdS h2
            refine ⟨kin_of hO hg50, ?_⟩
            rcases condS h2 with ⟨hc51, h2⟩ | ⟨hc51, h2⟩
            · rw [hc51]
              cbv
              cases h2
              cases exitI hi5
              try dsimp only at h1
              cases h1
              cases exitI hi6
              try dsimp only at h0
              cases h0
              refine fin_frz hX 3 ?_
              cbv
              exact fin_ok hX rfl ⟨[3], _, _, ⟨rfl, rfl⟩, rfl, rfl, rfl, rfl, by cbv; try simp⟩
            · rw [hc51]
              cbv
              obtain ⟨hg52, h2⟩ := grdS h2
              refine ⟨inr_of hO hg52, ?_⟩
              cases h2
              exact ⟨_, [0, 1, 2], nextI hI5 hi5, by cbv; try simp, by first | exact Nat.lt_succ_self _ | omega⟩
        · rw [hc21]
          cbv
          cases h2
          cases exitI hi5
          try dsimp only at h1
          obtain ⟨hg53, h1⟩ := grdS h1
          refine ⟨inr_of hO hg53, ?_⟩
          cases h1
          exact ⟨_, [0, 1, 2], nextI hI6 hi6, by cbv; try simp, by first | exact Nat.lt_succ_self _ | omega⟩
      · rw [hc20]
        cbv
        cases h1
        cases exitI hi6
        try dsimp only at h0
        cases h0
        refine fin_frz hX 2 ?_
        cbv
        exact fin_ok hX rfl ⟨[2], _, _, ⟨rfl, rfl⟩, rfl, rfl, rfl, rfl, by cbv; try simp⟩
end Go.Proofs.Ytegmjohhgedakaa
