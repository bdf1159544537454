/-
  The code does what its models say (printed by lift.py).
-/
import Derived.Test.YtebkfbkgmbgobaaKM
import Derived.Test.YtebkfbkgmbgobaaManW
import Derived.Test.YtebkfbkgmbgobaaSrtK
import Derived.Test.YtebkfbkgmbgobaaKW0
namespace Go.Proofs.Ytebkfbkgmbgobaa
open Go.RowKit
set_option maxRecDepth 100000

set_option maxHeartbeats 40000000 in
theorem fn_runs_Valid {O0 : Ops} (hO0 : O0 = std) {l_1 : List (Int × Int)} {r1 : Bool} (h : m_runs_Valid O0 l_1 = some r1) :
    Fn Try.prog 71 [.c (.sl 0)] [.arr false .i2 l_1] (fun v c => v = .c (.bool r1) ∧ c = []) := by
  refine fn_run tab_holds eqs_holds mixed [(6, (.seg 1 [0] (.seg 2 [1] (.seg 1 [2, 3, 4, 5, 6, 7, 8, 9, 10, 11, 12, 13, 14, 15, 16, 17] .fin))), [])] Try.func71 (by kernel_rfl) (by kernel_rfl) (Nat.le_of_ble_eq_true rfl) ?_
  intro O X hO hX
  rw [hO0, ← hO] at h
  unfold m_runs_Valid at h
  have h0 := h; clear h
  cbv
  rcases condS h0 with ⟨hc1, h0⟩ | ⟨hc1, h0⟩
  · rw [hc1]
    cbv
    cases h0
    exact fin_ok hX rfl ⟨[], _, _, ⟨rfl, rfl⟩, rfl, rfl, rfl, rfl, by cbv; try simp⟩
  · as_aux_lemma =>
    rw [hc1]
    cbv
    obtain ⟨e1, hi, h0⟩ := bindS h0
    obtain ⟨I1, hI1, hi⟩ := loopS hi
    refine loop1 tab_holds eqs_holds mixed [(6, (.seg 1 [0] (.seg 2 [1] (.seg 1 [2, 3, 4, 5, 6, 7, 8, 9, 10, 11, 12, 13, 14, 15, 16, 17] .fin))), [])] hO hX I1 (fun y => [(10, .c (.int .i64 y.2))]) (fun _ => []) (fun y => y.1) _ (by kernel_rfl) hi (by cbv; try simp) ?_
    refine allp ?_
    intro n1
    intro x79 hi
    cbv
    rw [hI1] at hi
    obtain ⟨n1, rfl, x1, h1, hi1⟩ := iterS hi
    unfold m_runs_Valid_L1 at h1
    try dsimp only at h1
    rcases condS h1 with ⟨hc2, h1⟩ | ⟨hc2, h1⟩
    · as_aux_lemma =>
      rw [hc2]
      cbv
      obtain ⟨hg3, h1⟩ := grdS h1
      refine ⟨idx_of hO hg3, ?_⟩
      obtain ⟨hg4, h1⟩ := grdS h1
      refine ⟨kin_of hO hg4, ?_⟩
      obtain ⟨x82, h2, h1⟩ := bindS h1
      obtain ⟨b23, hv, h2⟩ := bindS h2
      refine call_is hO hX (fn_interval_Valid hO hv) (by kernel_rfl) [] rfl trivial rfl ?_
      cbv
      rcases condS h2 with ⟨hc5, h2⟩ | ⟨hc5, h2⟩
      · rw [hc5]
        cbv
        cases h2
        try dsimp only at h1
        replace h1 := condT h1 rfl
        cases h1
        cases exitI hi1
        try dsimp only at h0
        cases h0
        exact fin_ok hX rfl ⟨[], _, _, ⟨rfl, rfl⟩, rfl, rfl, rfl, rfl, by cbv; try simp⟩
      · rw [hc5]
        cbv
        rcases condS h2 with ⟨hc6, h2⟩ | ⟨hc6, h2⟩
        · rw [hc6]
          cbv
          obtain ⟨hg7, h2⟩ := grdS h2
          refine ⟨inr_of hO hg7, ?_⟩
          obtain ⟨hg8, h2⟩ := grdS h2
          refine ⟨idx_of hO hg8, ?_⟩
          obtain ⟨hg9, h2⟩ := grdS h2
          refine ⟨kin_of hO hg9, ?_⟩
          cases h2
          try dsimp only at h1
          rcases condS h1 with ⟨hc10, h1⟩ | ⟨hc10, h1⟩
          · rw [hc10]
            cbv
            cases h1
            cases exitI hi1
            try dsimp only at h0
            cases h0
            exact fin_ok hX rfl ⟨[], _, _, ⟨rfl, rfl⟩, rfl, rfl, rfl, rfl, by cbv; try simp⟩
          · rw [hc10]
            cbv
            obtain ⟨hg11, h1⟩ := grdS h1
            refine ⟨inr_of hO hg11, ?_⟩
            cases h1
            exact ⟨_, [0], nextI hI1 hi1, by cbv; try simp, by first | exact Nat.lt_succ_self _ | omega⟩
        · rw [hc6]
          cbv
          cases h2
          try dsimp only at h1
          replace h1 := condF h1 rfl
          obtain ⟨hg12, h1⟩ := grdS h1
          refine ⟨inr_of hO hg12, ?_⟩
          cases h1
          exact ⟨_, [0], nextI hI1 hi1, by cbv; try simp, by first | exact Nat.lt_succ_self _ | omega⟩
    · rw [hc2]
      cbv
      cases h1
      cases exitI hi1
      try dsimp only at h0
      cases h0
      exact fin_ok hX rfl ⟨[], _, _, ⟨rfl, rfl⟩, rfl, rfl, rfl, rfl, by cbv; try simp⟩
set_option maxHeartbeats 40000000 in
theorem fn_periodic_inside {O0 : Ops} (hO0 : O0 = std) {period_1 : Int} {l_1 : List (Int × Int)} {r1 : Bool} (h : m_periodic_inside O0 period_1 l_1 = some r1) :
    Fn Try.prog 51 [.c (.sl 0), .c (.int .i64 period_1)] [.arr false .i2 l_1] (fun v c => v = .c (.bool r1) ∧ c = []) := by
  refine fn_run tab_holds eqs_holds mixed [] Try.func51 (by kernel_rfl) (by kernel_rfl) (Nat.le_of_ble_eq_true rfl) ?_
  intro O X hO hX
  rw [hO0, ← hO] at h
  unfold m_periodic_inside at h
  have h0 := h; clear h
  cbv
  obtain ⟨x86, h1, h0⟩ := bindS h0
  obtain ⟨b24, hv, h1⟩ := bindS h1
  refine call_is hO hX (fn_runs_Valid hO hv) (by kernel_rfl) [0] rfl ⟨rfl, rfl, trivial⟩ rfl ?_
  cbv
  rcases condS h1 with ⟨hc1, h1⟩ | ⟨hc1, h1⟩
  · rw [hc1]
    cbv
    rcases condS h1 with ⟨hc2, h1⟩ | ⟨hc2, h1⟩
    · rw [hc2]
      cbv
      cases h1
      try dsimp only at h0
      cases h0
      exact fin_ok hX rfl ⟨[], _, _, ⟨rfl, rfl⟩, rfl, rfl, rfl, rfl, by cbv; try simp⟩
    · rw [hc2]
      cbv
      rcases condS h1 with ⟨hc3, h1⟩ | ⟨hc3, h1⟩
      · rw [hc3]
        cbv
        obtain ⟨hg4, h1⟩ := grdS h1
        refine ⟨idx_of hO hg4, ?_⟩
        obtain ⟨hg5, h1⟩ := grdS h1
        refine ⟨kin_of hO hg5, ?_⟩
        obtain ⟨hg6, h1⟩ := grdS h1
        refine ⟨inr_of hO hg6, ?_⟩
        obtain ⟨hg7, h1⟩ := grdS h1
        refine ⟨idx_of hO hg7, ?_⟩
        obtain ⟨hg8, h1⟩ := grdS h1
        refine ⟨kin_of hO hg8, ?_⟩
        cases h1
        try dsimp only at h0
        cases h0
        exact fin_ok hX rfl ⟨[], _, _, ⟨rfl, rfl⟩, rfl, rfl, rfl, rfl, by cbv; try simp⟩
      · rw [hc3]
        cbv
        obtain ⟨hg9, h1⟩ := grdS h1
        refine ⟨idx_of hO hg9, ?_⟩
        obtain ⟨hg10, h1⟩ := grdS h1
        refine ⟨kin_of hO hg10, ?_⟩
        cases h1
        try dsimp only at h0
        cases h0
        exact fin_ok hX rfl ⟨[], _, _, ⟨rfl, rfl⟩, rfl, rfl, rfl, rfl, by cbv; try simp⟩
  · rw [hc1]
    cbv
    cases h1
    try dsimp only at h0
    cases h0
    exact fin_ok hX rfl ⟨[], _, _, ⟨rfl, rfl⟩, rfl, rfl, rfl, rfl, by cbv; try simp⟩
set_option maxHeartbeats 40000000 in
theorem fn_periodic_repeats {O0 : Ops} (hO0 : O0 = std) {period_1 : Int} {q_1 : Int} {l_1 : List (Int × Int)} {r1 : Bool} (h : m_periodic_repeats O0 period_1 q_1 l_1 = some r1) :
    Fn Try.prog 72 [.c (.sl 0), .c (.int .i64 period_1), .c (.int .i64 q_1)] [.arr false .i2 l_1] (fun v c => v = .c (.bool r1) ∧ c = []) := by
  refine fn_run tab_holds eqs_holds mixed [] Try.func72 (by kernel_rfl) (by kernel_rfl) (Nat.le_of_ble_eq_true rfl) ?_
  intro O X hO hX
  rw [hO0, ← hO] at h
  unfold m_periodic_repeats at h
  have h0 := h; clear h
  cbv
  obtain ⟨l36, hi, h0⟩ := bindS h0
  obtain ⟨I1, hI1, hi⟩ := loopS hi
  refine loop1 tab_holds eqs_holds mixed [] hO hX I1 (fun y => [(7, .c (.sl 1)), (17, .c (.int .i64 y.2.1))]) (fun y => [(1, .own 3 .i1 y.2.2)]) (fun y => y.1) _ (by kernel_rfl) hi (by cbv; try simp) ?_
  refine allp ?_
  intro n1
  refine allp ?_
  intro x90
  intro l29 hi
  cbv
  rw [hI1] at hi
  obtain ⟨n1, rfl, x1, h1, hi1⟩ := iterS hi
  unfold m_periodic_repeats_L1 at h1
  try dsimp only at h1
  rcases condS h1 with ⟨hc1, h1⟩ | ⟨hc1, h1⟩
  · as_aux_lemma =>
    rw [hc1]
    cbv
    obtain ⟨hg2, h1⟩ := grdS h1
    refine ⟨idx_of hO hg2, ?_⟩
    obtain ⟨hg3, h1⟩ := grdS h1
    refine ⟨kin_of hO hg3, ?_⟩
    obtain ⟨x92, h2, h1⟩ := bindS h1
    rcases condS h2 with ⟨hc4, h2⟩ | ⟨hc4, h2⟩
    · as_aux_lemma =>
      rw [hc4]
      cbv
      cases h2
      try dsimp only at h1
      obtain ⟨l31, h2, h1⟩ := bindS h1
      replace h2 := condT h2 rfl
      obtain ⟨hg5, h2⟩ := grdS h2
      refine ⟨room_of hO hg5, ?_⟩
      obtain ⟨hg6, h2⟩ := grdS h2
      refine ⟨room_of hO hg6, ?_⟩
      cases h2
      try dsimp only at h1
      obtain ⟨l35, h2, h1⟩ := bindS h1
      rcases condS h2 with ⟨hc7, h2⟩ | ⟨hc7, h2⟩
      · rw [hc7]
        cbv
        obtain ⟨hg8, h2⟩ := grdS h2
        refine ⟨room_of hO hg8, ?_⟩
        obtain ⟨hg9, h2⟩ := grdS h2
        refine ⟨room_of hO hg9, ?_⟩
        cases h2
        try dsimp only at h1
        obtain ⟨hg10, h1⟩ := grdS h1
        refine ⟨inr_of hO hg10, ?_⟩
        cases h1
        exact ⟨_, [0, 6], nextI hI1 hi1, by cbv; try simp, by first | exact Nat.lt_succ_self _ | omega⟩
      · rw [hc7]
        cbv
        obtain ⟨hg11, h2⟩ := grdS h2
        refine ⟨idx_of hO hg11, ?_⟩
        obtain ⟨hg12, h2⟩ := grdS h2
        refine ⟨kin_of hO hg12, ?_⟩
        obtain ⟨l33, h3, h2⟩ := bindS h2
        rcases condS h3 with ⟨hc13, h3⟩ | ⟨hc13, h3⟩
        · rw [hc13]
          cbv
          obtain ⟨hg14, h3⟩ := grdS h3
          refine ⟨room_of hO hg14, ?_⟩
          obtain ⟨hg15, h3⟩ := grdS h3
          refine ⟨room_of hO hg15, ?_⟩
          cases h3
          try dsimp only at h2
          cases h2
          try dsimp only at h1
          obtain ⟨hg16, h1⟩ := grdS h1
          refine ⟨inr_of hO hg16, ?_⟩
          cases h1
          exact ⟨_, [0, 6], nextI hI1 hi1, by cbv; try simp, by first | exact Nat.lt_succ_self _ | omega⟩
        · rw [hc13]
          cbv
          cases h3
          try dsimp only at h2
          cases h2
          try dsimp only at h1
          obtain ⟨hg17, h1⟩ := grdS h1
          refine ⟨inr_of hO hg17, ?_⟩
          cases h1
          exact ⟨_, [0, 4], nextI hI1 hi1, by cbv; try simp, by first | exact Nat.lt_succ_self _ | omega⟩
    · as_aux_lemma =>
      rw [hc4]
      cbv
      obtain ⟨hg18, h2⟩ := grdS h2
      refine ⟨inr_of hO hg18, ?_⟩
      obtain ⟨hg19, h2⟩ := grdS h2
      refine ⟨idx_of hO hg19, ?_⟩
      obtain ⟨hg20, h2⟩ := grdS h2
      refine ⟨kin_of hO hg20, ?_⟩
      cases h2
      try dsimp only at h1
      obtain ⟨l31, h2, h1⟩ := bindS h1
      rcases condS h2 with ⟨hc21, h2⟩ | ⟨hc21, h2⟩
      · as_aux_lemma =>
        rw [hc21]
        cbv
        obtain ⟨hg22, h2⟩ := grdS h2
        refine ⟨room_of hO hg22, ?_⟩
        obtain ⟨hg23, h2⟩ := grdS h2
        refine ⟨room_of hO hg23, ?_⟩
        cases h2
        try dsimp only at h1
        obtain ⟨l35, h2, h1⟩ := bindS h1
        rcases condS h2 with ⟨hc24, h2⟩ | ⟨hc24, h2⟩
        · rw [hc24]
          cbv
          obtain ⟨hg25, h2⟩ := grdS h2
          refine ⟨room_of hO hg25, ?_⟩
          obtain ⟨hg26, h2⟩ := grdS h2
          refine ⟨room_of hO hg26, ?_⟩
          cases h2
          try dsimp only at h1
          obtain ⟨hg27, h1⟩ := grdS h1
          refine ⟨inr_of hO hg27, ?_⟩
          cases h1
          exact ⟨_, [0, 6], nextI hI1 hi1, by cbv; try simp, by first | exact Nat.lt_succ_self _ | omega⟩
        · rw [hc24]
          cbv
          obtain ⟨hg28, h2⟩ := grdS h2
          refine ⟨idx_of hO hg28, ?_⟩
          obtain ⟨hg29, h2⟩ := grdS h2
          refine ⟨kin_of hO hg29, ?_⟩
          obtain ⟨l33, h3, h2⟩ := bindS h2
          rcases condS h3 with ⟨hc30, h3⟩ | ⟨hc30, h3⟩
          · rw [hc30]
            cbv
            obtain ⟨hg31, h3⟩ := grdS h3
            refine ⟨room_of hO hg31, ?_⟩
            obtain ⟨hg32, h3⟩ := grdS h3
            refine ⟨room_of hO hg32, ?_⟩
            cases h3
            try dsimp only at h2
            cases h2
            try dsimp only at h1
            obtain ⟨hg33, h1⟩ := grdS h1
            refine ⟨inr_of hO hg33, ?_⟩
            cases h1
            exact ⟨_, [0, 6], nextI hI1 hi1, by cbv; try simp, by first | exact Nat.lt_succ_self _ | omega⟩
          · rw [hc30]
            cbv
            cases h3
            try dsimp only at h2
            cases h2
            try dsimp only at h1
            obtain ⟨hg34, h1⟩ := grdS h1
            refine ⟨inr_of hO hg34, ?_⟩
            cases h1
            exact ⟨_, [0, 4], nextI hI1 hi1, by cbv; try simp, by first | exact Nat.lt_succ_self _ | omega⟩
      · as_aux_lemma =>
        rw [hc21]
        cbv
        cases h2
        try dsimp only at h1
        obtain ⟨l35, h2, h1⟩ := bindS h1
        rcases condS h2 with ⟨hc35, h2⟩ | ⟨hc35, h2⟩
        · rw [hc35]
          cbv
          obtain ⟨hg36, h2⟩ := grdS h2
          refine ⟨room_of hO hg36, ?_⟩
          obtain ⟨hg37, h2⟩ := grdS h2
          refine ⟨room_of hO hg37, ?_⟩
          cases h2
          try dsimp only at h1
          obtain ⟨hg38, h1⟩ := grdS h1
          refine ⟨inr_of hO hg38, ?_⟩
          cases h1
          exact ⟨_, [0, 4], nextI hI1 hi1, by cbv; try simp, by first | exact Nat.lt_succ_self _ | omega⟩
        · rw [hc35]
          cbv
          obtain ⟨hg39, h2⟩ := grdS h2
          refine ⟨idx_of hO hg39, ?_⟩
          obtain ⟨hg40, h2⟩ := grdS h2
          refine ⟨kin_of hO hg40, ?_⟩
          obtain ⟨l33, h3, h2⟩ := bindS h2
          rcases condS h3 with ⟨hc41, h3⟩ | ⟨hc41, h3⟩
          · rw [hc41]
            cbv
            obtain ⟨hg42, h3⟩ := grdS h3
            refine ⟨room_of hO hg42, ?_⟩
            obtain ⟨hg43, h3⟩ := grdS h3
            refine ⟨room_of hO hg43, ?_⟩
            cases h3
            try dsimp only at h2
            cases h2
            try dsimp only at h1
            obtain ⟨hg44, h1⟩ := grdS h1
            refine ⟨inr_of hO hg44, ?_⟩
            cases h1
            exact ⟨_, [0, 4], nextI hI1 hi1, by cbv; try simp, by first | exact Nat.lt_succ_self _ | omega⟩
          · rw [hc41]
            cbv
            cases h3
            try dsimp only at h2
            cases h2
            try dsimp only at h1
            obtain ⟨hg45, h1⟩ := grdS h1
            refine ⟨inr_of hO hg45, ?_⟩
            cases h1
            exact ⟨_, [0, 1], nextI hI1 hi1, by cbv; try simp, by first | exact Nat.lt_succ_self _ | omega⟩
  · as_aux_lemma =>
    rw [hc1]
    cbv
    cases h1
    cases exitI hi1
    try dsimp only at h0
    obtain ⟨l37, hv, h0⟩ := bindS h0
    refine srt_int hO hX (i := 1) rfl hv ?_
    cbv
    rcases condS h0 with ⟨hc46, h0⟩ | ⟨hc46, h0⟩
    · rw [hc46]
      cbv
      cases h0
      exact fin_ok hX rfl ⟨[], _, _, ⟨rfl, rfl⟩, rfl, rfl, rfl, rfl, by cbv; try simp⟩
    · as_aux_lemma =>
      rw [hc46]
      cbv
      obtain ⟨hg47, h0⟩ := grdS h0
      refine ⟨inr_of hO hg47, ?_⟩
      obtain ⟨hg48, h0⟩ := grdS h0
      refine ⟨nz_of hO hg48, ?_⟩
      obtain ⟨hg49, h0⟩ := grdS h0
      refine ⟨inr_of hO hg49, ?_⟩
      obtain ⟨hg50, h0⟩ := grdS h0
      refine ⟨inr_of hO hg50, ?_⟩
      rcases condS h0 with ⟨hc51, h0⟩ | ⟨hc51, h0⟩
      · rw [hc51]
        cbv
        cases h0
        exact fin_ok hX rfl ⟨[], _, _, ⟨rfl, rfl⟩, rfl, rfl, rfl, rfl, by cbv; try simp⟩
      · as_aux_lemma =>
        rw [hc51]
        cbv
        refine ⟨nz_of hO hg48, ?_⟩
        refine ⟨inr_of hO hg49, ?_⟩
        obtain ⟨hg52, h0⟩ := grdS h0
        refine ⟨nz_of hO hg52, ?_⟩
        rcases condS h0 with ⟨hc53, h0⟩ | ⟨hc53, h0⟩
        · rw [hc53]
          cbv
          cases h0
          exact fin_ok hX rfl ⟨[], _, _, ⟨rfl, rfl⟩, rfl, rfl, rfl, rfl, by cbv; try simp⟩
        · as_aux_lemma =>
          rw [hc53]
          cbv
          obtain ⟨e1, hi, h0⟩ := bindS h0
          obtain ⟨I2, hI2, hi⟩ := loopS hi
          refine loop1 tab_holds eqs_holds mixed [] hO hX I2 (fun y => [(58, .junk), (60, .junk), (63, .junk), (82, .c (.int .i64 y.2))]) (fun _ => []) (fun y => y.1) _ (by kernel_rfl) hi (by cbv; try simp) ?_
          refine allp ?_
          intro n2
          intro x93 hi
          cbv
          rw [hI2] at hi
          obtain ⟨n2, rfl, x2, h1, hi2⟩ := iterS hi
          unfold m_periodic_repeats_L2 at h1
          try dsimp only at h1
          rcases condS h1 with ⟨hc54, h1⟩ | ⟨hc54, h1⟩
          · as_aux_lemma =>
            rw [hc54]
            cbv
            obtain ⟨hg55, h1⟩ := grdS h1
            refine ⟨idx_of hO hg55, ?_⟩
            obtain ⟨hg56, h1⟩ := grdS h1
            refine ⟨kin_of hO hg56, ?_⟩
            obtain ⟨hg57, h1⟩ := grdS h1
            refine ⟨inr_of hO hg57, ?_⟩
            obtain ⟨y3, h2, h1⟩ := bindS h1
            rcases condS h2 with ⟨hc58, h2⟩ | ⟨hc58, h2⟩
            · rw [hc58]
              cbv
              obtain ⟨hg59, h2⟩ := grdS h2
              refine ⟨inr_of hO hg59, ?_⟩
              cases h2
              try dsimp only at h1
              obtain ⟨hg60, h1⟩ := grdS h1
              refine ⟨inr_of hO hg60, ?_⟩
              obtain ⟨hg61, h1⟩ := grdS h1
              refine ⟨nz_of hO hg61, ?_⟩
              obtain ⟨hg62, h1⟩ := grdS h1
              refine ⟨idx_of hO hg62, ?_⟩
              obtain ⟨hg63, h1⟩ := grdS h1
              refine ⟨kin_of hO hg63, ?_⟩
              rcases condS h1 with ⟨hc64, h1⟩ | ⟨hc64, h1⟩
              · rw [hc64]
                cbv
                cases h1
                cases exitI hi2
                try dsimp only at h0
                cases h0
                exact fin_ok hX rfl ⟨[], _, _, ⟨rfl, rfl⟩, rfl, rfl, rfl, rfl, by cbv; try simp⟩
              · rw [hc64]
                cbv
                obtain ⟨hg65, h1⟩ := grdS h1
                refine ⟨inr_of hO hg65, ?_⟩
                cases h1
                exact ⟨_, [0, 1], nextI hI2 hi2, by cbv; try simp, by first | exact Nat.lt_succ_self _ | omega⟩
            · rw [hc58]
              cbv
              cases h2
              try dsimp only at h1
              obtain ⟨hg66, h1⟩ := grdS h1
              refine ⟨inr_of hO hg66, ?_⟩
              obtain ⟨hg67, h1⟩ := grdS h1
              refine ⟨nz_of hO hg67, ?_⟩
              obtain ⟨hg68, h1⟩ := grdS h1
              refine ⟨idx_of hO hg68, ?_⟩
              obtain ⟨hg69, h1⟩ := grdS h1
              refine ⟨kin_of hO hg69, ?_⟩
              rcases condS h1 with ⟨hc70, h1⟩ | ⟨hc70, h1⟩
              · rw [hc70]
                cbv
                cases h1
                cases exitI hi2
                try dsimp only at h0
                cases h0
                exact fin_ok hX rfl ⟨[], _, _, ⟨rfl, rfl⟩, rfl, rfl, rfl, rfl, by cbv; try simp⟩
              · rw [hc70]
                cbv
                obtain ⟨hg71, h1⟩ := grdS h1
                refine ⟨inr_of hO hg71, ?_⟩
                cases h1
                exact ⟨_, [0, 1], nextI hI2 hi2, by cbv; try simp, by first | exact Nat.lt_succ_self _ | omega⟩
          · rw [hc54]
            cbv
            cases h1
            cases exitI hi2
            try dsimp only at h0
            cases h0
            exact fin_ok hX rfl ⟨[], _, _, ⟨rfl, rfl⟩, rfl, rfl, rfl, rfl, by cbv; try simp⟩
set_option maxHeartbeats 40000000 in
theorem fn_periodic_least {O0 : Ops} (hO0 : O0 = std) {period_1 : Int} {l_1 : List (Int × Int)} {r1 : Int} {r2 : List (Int × Int)} (h : m_periodic_least O0 period_1 l_1 = some (r1, r2)) :
    Fn Try.prog 52 [.c (.int .i64 period_1), .c (.sl 0)] [.arr false .i2 l_1] (fun v c => v = .agg [.int .i64 r1, .sl 1] ∧ c = [.own 40 .i2 r2]) := by
  refine fn_run tab_holds eqs_holds mixed [] Try.func52 (by kernel_rfl) (by kernel_rfl) (Nat.le_of_ble_eq_true rfl) ?_
  intro O X hO hX
  rw [hO0, ← hO] at h
  unfold m_periodic_least at h
  have h0 := h; clear h
  cbv
  obtain ⟨best5, hi, h0⟩ := bindS h0
  obtain ⟨I1, hI1, hi⟩ := loopS hi
  refine loop1 tab_holds eqs_holds mixed [] hO hX I1 (fun y => [(5, .c (.int .i64 y.2.1)), (6, .c (.int .i64 y.2.2))]) (fun _ => []) (fun y => y.1) _ (by kernel_rfl) hi (by cbv; try simp) ?_
  refine allp ?_
  intro n1
  refine allp ?_
  intro best1
  intro q3 hi
  cbv
  rw [hI1] at hi
  obtain ⟨n1, rfl, x1, h1, hi1⟩ := iterS hi
  unfold m_periodic_least_L1 at h1
  try dsimp only at h1
  obtain ⟨hg1, h1⟩ := grdS h1
  refine ⟨nz_of hO hg1, ?_⟩
  obtain ⟨hg2, h1⟩ := grdS h1
  refine ⟨inr_of hO hg2, ?_⟩
  rcases condS h1 with ⟨hc3, h1⟩ | ⟨hc3, h1⟩
  · as_aux_lemma =>
    rw [hc3]
    cbv
    refine ⟨nz_of hO hg1, ?_⟩
    rcases condS h1 with ⟨hc4, h1⟩ | ⟨hc4, h1⟩
    · rw [hc4]
      cbv
      obtain ⟨hg5, h1⟩ := grdS h1
      refine ⟨inr_of hO hg5, ?_⟩
      cases h1
      exact ⟨_, [0, 1], nextI hI1 hi1, by cbv; try simp, by first | exact Nat.lt_succ_self _ | omega⟩
    · as_aux_lemma =>
      rw [hc4]
      cbv
      obtain ⟨b26, hv, h1⟩ := bindS h1
      refine call_is hO hX (fn_periodic_repeats hO hv) (by kernel_rfl) [0] rfl ⟨rfl, rfl, trivial⟩ rfl ?_
      cbv
      rcases condS h1 with ⟨hc6, h1⟩ | ⟨hc6, h1⟩
      · as_aux_lemma =>
        rw [hc6]
        cbv
        cases h1
        cases exitI hi1
        try dsimp only at h0
        obtain ⟨l43, hi, h0⟩ := bindS h0
        obtain ⟨I2, hI2, hi⟩ := loopS hi
        refine loop1 tab_holds eqs_holds mixed [] hO hX I2 (fun y => [(7, .c (.sl 2)), (38, .c (.int .i64 y.2.1))]) (fun y => [(2, .own 40 .i2 y.2.2)]) (fun y => y.1) _ (by kernel_rfl) hi (by cbv; try simp) ?_
        refine allp ?_
        intro n2
        refine allp ?_
        intro x95
        intro l40 hi
        cbv
        rw [hI2] at hi
        obtain ⟨n2, rfl, x2, h1, hi2⟩ := iterS hi
        unfold m_periodic_least_L2 at h1
        try dsimp only at h1
        rcases condS h1 with ⟨hc7, h1⟩ | ⟨hc7, h1⟩
        · rw [hc7]
          cbv
          obtain ⟨hg8, h1⟩ := grdS h1
          refine ⟨idx_of hO hg8, ?_⟩
          obtain ⟨hg9, h1⟩ := grdS h1
          refine ⟨kin_of hO hg9, ?_⟩
          obtain ⟨l42, h2, h1⟩ := bindS h1
          rcases condS h2 with ⟨hc10, h2⟩ | ⟨hc10, h2⟩
          · rw [hc10]
            cbv
            obtain ⟨hg11, h2⟩ := grdS h2
            refine ⟨room_of hO hg11, ?_⟩
            obtain ⟨hg12, h2⟩ := grdS h2
            refine ⟨room_of hO hg12, ?_⟩
            cases h2
            try dsimp only at h1
            obtain ⟨hg13, h1⟩ := grdS h1
            refine ⟨inr_of hO hg13, ?_⟩
            cases h1
            exact ⟨_, [0, 1, 5], nextI hI2 hi2, by cbv; try simp, by first | exact Nat.lt_succ_self _ | omega⟩
          · rw [hc10]
            cbv
            cases h2
            try dsimp only at h1
            obtain ⟨hg14, h1⟩ := grdS h1
            refine ⟨inr_of hO hg14, ?_⟩
            cases h1
            exact ⟨_, [0, 1, 2], nextI hI2 hi2, by cbv; try simp, by first | exact Nat.lt_succ_self _ | omega⟩
        · rw [hc7]
          cbv
          cases h1
          cases exitI hi2
          try dsimp only at h0
          cases h0
          exact fin_ok hX rfl ⟨[2], _, _, ⟨rfl, rfl⟩, rfl, rfl, rfl, rfl, by cbv; try simp⟩
      · rw [hc6]
        cbv
        refine ⟨nz_of hO hg1, ?_⟩
        refine ⟨inr_of hO hg2, ?_⟩
        obtain ⟨b27, hv, h1⟩ := bindS h1
        refine call_is hO hX (fn_periodic_repeats hO hv) (by kernel_rfl) [0] rfl ⟨rfl, rfl, trivial⟩ rfl ?_
        cbv
        obtain ⟨best3, h2, h1⟩ := bindS h1
        rcases condS h2 with ⟨hc15, h2⟩ | ⟨hc15, h2⟩
        · rw [hc15]
          cbv
          cases h2
          try dsimp only at h1
          refine ⟨nz_of hO hg1, ?_⟩
          refine ⟨inr_of hO hg2, ?_⟩
          obtain ⟨hg16, h1⟩ := grdS h1
          refine ⟨inr_of hO hg16, ?_⟩
          cases h1
          exact ⟨_, [0, 1], nextI hI1 hi1, by cbv; try simp, by first | exact Nat.lt_succ_self _ | omega⟩
        · rw [hc15]
          cbv
          cases h2
          try dsimp only at h1
          obtain ⟨hg17, h1⟩ := grdS h1
          refine ⟨inr_of hO hg17, ?_⟩
          cases h1
          exact ⟨_, [0, 1], nextI hI1 hi1, by cbv; try simp, by first | exact Nat.lt_succ_self _ | omega⟩
  · as_aux_lemma =>
    rw [hc3]
    cbv
    cases h1
    cases exitI hi1
    try dsimp only at h0
    obtain ⟨l43, hi, h0⟩ := bindS h0
    obtain ⟨I2, hI2, hi⟩ := loopS hi
    refine loop1 tab_holds eqs_holds mixed [] hO hX I2 (fun y => [(7, .c (.sl 2)), (38, .c (.int .i64 y.2.1))]) (fun y => [(2, .own 40 .i2 y.2.2)]) (fun y => y.1) _ (by kernel_rfl) hi (by cbv; try simp) ?_
    refine allp ?_
    intro n2
    refine allp ?_
    intro x95
    intro l40 hi
    cbv
    rw [hI2] at hi
    obtain ⟨n2, rfl, x2, h1, hi2⟩ := iterS hi
    unfold m_periodic_least_L2 at h1
    try dsimp only at h1
    rcases condS h1 with ⟨hc18, h1⟩ | ⟨hc18, h1⟩
    · rw [hc18]
      cbv
      obtain ⟨hg19, h1⟩ := grdS h1
      refine ⟨idx_of hO hg19, ?_⟩
      obtain ⟨hg20, h1⟩ := grdS h1
      refine ⟨kin_of hO hg20, ?_⟩
      obtain ⟨l42, h2, h1⟩ := bindS h1
      rcases condS h2 with ⟨hc21, h2⟩ | ⟨hc21, h2⟩
      · rw [hc21]
        cbv
        obtain ⟨hg22, h2⟩ := grdS h2
        refine ⟨room_of hO hg22, ?_⟩
        obtain ⟨hg23, h2⟩ := grdS h2
        refine ⟨room_of hO hg23, ?_⟩
        cases h2
        try dsimp only at h1
        obtain ⟨hg24, h1⟩ := grdS h1
        refine ⟨inr_of hO hg24, ?_⟩
        cases h1
        exact ⟨_, [0, 1, 5], nextI hI2 hi2, by cbv; try simp, by first | exact Nat.lt_succ_self _ | omega⟩
      · rw [hc21]
        cbv
        cases h2
        try dsimp only at h1
        obtain ⟨hg25, h1⟩ := grdS h1
        refine ⟨inr_of hO hg25, ?_⟩
        cases h1
        exact ⟨_, [0, 1, 2], nextI hI2 hi2, by cbv; try simp, by first | exact Nat.lt_succ_self _ | omega⟩
    · rw [hc18]
      cbv
      cases h1
      cases exitI hi2
      try dsimp only at h0
      cases h0
      exact fin_ok hX rfl ⟨[2], _, _, ⟨rfl, rfl⟩, rfl, rfl, rfl, rfl, by cbv; try simp⟩
end Go.Proofs.Ytebkfbkgmbgobaa
