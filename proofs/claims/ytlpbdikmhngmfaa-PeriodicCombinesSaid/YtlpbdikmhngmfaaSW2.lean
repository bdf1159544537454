/-
  The code does what its models say (printed by lift.py).
-/
import Derived.Test.YtlpbdikmhngmfaaQM
import Derived.Test.YtlpbdikmhngmfaaQG
import Derived.Test.YtlpbdikmhngmfaaManWC
import Derived.Test.YtlpbdikmhngmfaaSrtP
namespace Go.Proofs.Ytlpbdikmhngmfaa
open Go.RowKit
set_option maxRecDepth 100000

set_option maxHeartbeats 40000000 in
theorem fn_law13_set {O0 : Ops} (hO0 : O0 = std) {period_1 : Int} {l_1 : List (Int × Int)} {r1 : Int} (h : m_law13_set O0 period_1 l_1 = some r1) :
    Fn Try.prog 29 [.c (.int .i64 period_1), .c (.sl 0)] [.arr false .i2 l_1] (fun v c => v = .agg [.int .i64 r1, .sl 0] ∧ c = []) := by
  refine fn_run tab_holds eqs_holds mixed [] Try.func29 (by kernel_rfl) (by kernel_rfl) (Nat.le_of_ble_eq_true rfl) ?_
  intro O X hO hX
  rw [hO0, ← hO] at h
  unfold m_law13_set at h
  have h0 := h; clear h
  cbv
  cases h0
  exact fin_ok hX rfl ⟨[], _, _, ⟨rfl, rfl⟩, rfl, rfl, rfl, rfl, by cbv; try simp⟩
set_option maxHeartbeats 40000000 in
theorem fn_integer_size {O0 : Ops} (hO0 : O0 = std) {a_1 : Int} {r1 : Int} (h : m_integer_size O0 a_1 = some r1) :
    Fn Try.prog 103 [.c (.int .i64 a_1)] [] (fun v c => v = .c (.int .u64 r1) ∧ c = []) := by
  refine fn_run tab_holds eqs_holds mixed [] Try.func103 (by kernel_rfl) (by kernel_rfl) (Nat.le_of_ble_eq_true rfl) ?_
  intro O X hO hX
  rw [hO0, ← hO] at h
  unfold m_integer_size at h
  have h0 := h; clear h
  cbv
  rcases condS h0 with ⟨hc1, h0⟩ | ⟨hc1, h0⟩
  · rw [hc1]
    cbv
    obtain ⟨hg2, h0⟩ := grdS h0
    refine ⟨inr_of hO hg2, ?_⟩
    obtain ⟨hg3, h0⟩ := grdS h0
    refine ⟨inr_of hO hg3, ?_⟩
    cases h0
    exact fin_ok hX rfl ⟨[], _, _, ⟨rfl, rfl⟩, rfl, rfl, rfl, rfl, by cbv; try simp⟩
  · rw [hc1]
    cbv
    obtain ⟨hg4, h0⟩ := grdS h0
    refine ⟨inr_of hO hg4, ?_⟩
    cases h0
    exact fin_ok hX rfl ⟨[], _, _, ⟨rfl, rfl⟩, rfl, rfl, rfl, rfl, by cbv; try simp⟩
set_option maxHeartbeats 40000000 in
theorem fn_integer_signed {O0 : Ops} (hO0 : O0 = std) {m_1 : Int} {neg_1 : Bool} {r1 : Int} {r2 : Bool} (h : m_integer_signed O0 m_1 neg_1 = some (r1, r2)) :
    Fn Try.prog 104 [.c (.int .u64 m_1), .c (.bool neg_1)] [] (fun v c => v = .tup [.one (.int .i64 r1), .one (.bool r2)] ∧ c = []) := by
  refine fn_run tab_holds eqs_holds mixed [] Try.func104 (by kernel_rfl) (by kernel_rfl) (Nat.le_of_ble_eq_true rfl) ?_
  intro O X hO hX
  rw [hO0, ← hO] at h
  unfold m_integer_signed at h
  have h0 := h; clear h
  cbv
  obtain ⟨⟨neg2, x52⟩, h1, h0⟩ := bindS h0
  rcases condS h1 with ⟨hc1, h1⟩ | ⟨hc1, h1⟩
  · rw [hc1]
    cbv
    cases h1
    try dsimp only at h0
    obtain ⟨e1, h1, h0⟩ := bindS h0
    rcases condS h1 with ⟨hc2, h1⟩ | ⟨hc2, h1⟩
    · rw [hc2]
      cbv
      obtain ⟨hg3, h1⟩ := grdS h1
      refine ⟨inr_of hO hg3, ?_⟩
      obtain ⟨hg4, h1⟩ := grdS h1
      refine ⟨inr_of hO hg4, ?_⟩
      cases h1
      try dsimp only at h0
      cases h0
      exact fin_ok hX rfl ⟨[], _, _, ⟨rfl, rfl⟩, rfl, rfl, rfl, rfl, by cbv; try simp⟩
    · rw [hc2]
      cbv
      rw [show (O .not true) = false from by subst hO; rfl]
      cbv
      obtain ⟨x54, h2, h1⟩ := bindS h1
      replace h2 := condF h2 (by subst hO; rfl)
      cases h2
      try dsimp only at h1
      replace h1 := condF h1 rfl
      cases h1
      try dsimp only at h0
      cases h0
      exact fin_ok hX rfl ⟨[], _, _, ⟨rfl, rfl⟩, rfl, rfl, rfl, rfl, by cbv; try simp⟩
  · rw [hc1]
    cbv
    rw [show (O .not false) = true from by subst hO; rfl]
    cbv
    cases h1
    try dsimp only at h0
    obtain ⟨e1, h1, h0⟩ := bindS h0
    replace h1 := condF h1 rfl
    obtain ⟨x54, h2, h1⟩ := bindS h1
    replace h2 := condT h2 (by subst hO; rfl)
    cases h2
    try dsimp only at h1
    rcases condS h1 with ⟨hc5, h1⟩ | ⟨hc5, h1⟩
    · rw [hc5]
      cbv
      obtain ⟨hg6, h1⟩ := grdS h1
      refine ⟨inr_of hO hg6, ?_⟩
      cases h1
      try dsimp only at h0
      cases h0
      exact fin_ok hX rfl ⟨[], _, _, ⟨rfl, rfl⟩, rfl, rfl, rfl, rfl, by cbv; try simp⟩
    · rw [hc5]
      cbv
      cases h1
      try dsimp only at h0
      cases h0
      exact fin_ok hX rfl ⟨[], _, _, ⟨rfl, rfl⟩, rfl, rfl, rfl, rfl, by cbv; try simp⟩
set_option maxHeartbeats 40000000 in
theorem fn_integer_Gcd {O0 : Ops} (hO0 : O0 = std) {a_1 : Int} {b_1 : Int} {r1 : Int} (h : m_integer_Gcd O0 a_1 b_1 = some r1) :
    Fn Try.prog 91 [.c (.int .i64 a_1), .c (.int .i64 b_1)] [] (fun v c => v = .c (.int .i64 r1) ∧ c = []) := by
  refine fn_run tab_holds eqs_holds mixed [(3, (.seg 1 [0, 1, 2, 3, 4, 5] .fin), [])] Try.func91 (by kernel_rfl) (by kernel_rfl) (Nat.le_of_ble_eq_true rfl) ?_
  intro O X hO hX
  rw [hO0, ← hO] at h
  unfold m_integer_Gcd at h
  have h0 := h; clear h
  cbv
  obtain ⟨n15, hv, h0⟩ := bindS h0
  refine call_is hO hX (fn_integer_size hO hv) (by kernel_rfl) [] rfl trivial rfl ?_
  cbv
  obtain ⟨n16, hv, h0⟩ := bindS h0
  refine call_is hO hX (fn_integer_size hO hv) (by kernel_rfl) [] rfl trivial rfl ?_
  cbv
  obtain ⟨x50, hi, h0⟩ := bindS h0
  obtain ⟨I1, hI1, hi⟩ := loopS hi
  refine loop1 tab_holds eqs_holds mixed [(3, (.seg 1 [0, 1, 2, 3, 4, 5] .fin), [])] hO hX I1 (fun y => [(5, .c (.int .u64 y.2.1)), (6, .c (.int .u64 y.2.2))]) (fun _ => []) (fun y => y.1) _ (by kernel_rfl) hi (by cbv; try simp) ?_
  refine allp ?_
  intro n1
  refine allp ?_
  intro x49
  intro y3 hi
  cbv
  rw [hI1] at hi
  obtain ⟨n1, rfl, x1, h1, hi1⟩ := iterS hi
  unfold m_integer_Gcd_L1 at h1
  try dsimp only at h1
  rcases condS h1 with ⟨hc1, h1⟩ | ⟨hc1, h1⟩
  · rw [hc1]
    cbv
    obtain ⟨hg2, h1⟩ := grdS h1
    refine ⟨nz_of hO hg2, ?_⟩
    cases h1
    exact ⟨_, [], nextI hI1 hi1, by cbv; try simp, by first | exact Nat.lt_succ_self _ | omega⟩
  · rw [hc1]
    cbv
    cases h1
    cases exitI hi1
    try dsimp only at h0
    obtain ⟨⟨n17, b13⟩, hv, h0⟩ := bindS h0
    try dsimp only at h0
    refine call_is hO hX (fn_integer_signed hO hv) (by kernel_rfl) [] rfl trivial rfl ?_
    cbv
    cases h0
    exact fin_ok hX rfl ⟨[], _, _, ⟨rfl, rfl⟩, rfl, rfl, rfl, rfl, by cbv; try simp⟩
set_option maxHeartbeats 40000000 in
theorem fn_integer_Lcm {O0 : Ops} (hO0 : O0 = std) {a_1 : Int} {b_1 : Int} {r1 : Int} {r2 : Int} (h : m_integer_Lcm O0 a_1 b_1 = some (r1, r2)) :
    Fn Try.prog 69 [.c (.int .i64 a_1), .c (.int .i64 b_1)] [] (fun v c => v = .tup [.one (.int .i64 r1), .one (.int .i64 r2)] ∧ c = []) := by
  refine fn_run tab_holds eqs_holds mixed [] Try.func69 (by kernel_rfl) (by kernel_rfl) (Nat.le_of_ble_eq_true rfl) ?_
  intro O X hO hX
  rw [hO0, ← hO] at h
  unfold m_integer_Lcm at h
  have h0 := h; clear h
  cbv
  obtain ⟨x48, h1, h0⟩ := bindS h0
  rcases condS h1 with ⟨hc1, h1⟩ | ⟨hc1, h1⟩
  · rw [hc1]
    cbv
    cases h1
    try dsimp only at h0
    replace h0 := condT h0 rfl
    cases h0
    exact fin_ok hX rfl ⟨[], _, _, ⟨rfl, rfl⟩, rfl, rfl, rfl, rfl, by cbv; try simp⟩
  · rw [hc1]
    cbv
    cases h1
    try dsimp only at h0
    rcases condS h0 with ⟨hc2, h0⟩ | ⟨hc2, h0⟩
    · rw [hc2]
      cbv
      cases h0
      exact fin_ok hX rfl ⟨[], _, _, ⟨rfl, rfl⟩, rfl, rfl, rfl, rfl, by cbv; try simp⟩
    · rw [hc2]
      cbv
      obtain ⟨n18, hv, h0⟩ := bindS h0
      refine call_is hO hX (fn_integer_Gcd hO hv) (by kernel_rfl) [] rfl trivial rfl ?_
      cbv
      obtain ⟨hg3, h0⟩ := grdS h0
      refine ⟨nz_of hO hg3, ?_⟩
      obtain ⟨hg4, h0⟩ := grdS h0
      refine ⟨inr_of hO hg4, ?_⟩
      obtain ⟨⟨n19, n20⟩, hv, h0⟩ := bindS h0
      try dsimp only at h0
      refine call_is hO hX (fn_integer_Mul hO hv) (by kernel_rfl) [] rfl trivial rfl ?_
      cbv
      cases h0
      exact fin_ok hX rfl ⟨[], _, _, ⟨rfl, rfl⟩, rfl, rfl, rfl, rfl, by cbv; try simp⟩
set_option maxHeartbeats 40000000 in
theorem fn_periodic_spread {O0 : Ops} (hO0 : O0 = std) {p_1 : Int} {m_1 : Int} {p_2 : List (Int × Int)} {r1 : List (Int × Int)} (h : m_periodic_spread O0 p_1 m_1 p_2 = some r1) :
    Fn Try.prog 70 [.agg [.int .i64 p_1, .sl 0], .c (.int .i64 m_1)] [.arr false .i2 p_2] (fun v c => v = .c (.sl 1) ∧ c = [.own 29 .i2 r1]) := by
  refine fn_run tab_holds eqs_holds mixed [] Try.func70 (by kernel_rfl) (by kernel_rfl) (Nat.le_of_ble_eq_true rfl) ?_
  intro O X hO hX
  rw [hO0, ← hO] at h
  unfold m_periodic_spread at h
  have h0 := h; clear h
  cbv
  obtain ⟨e1, h1, h0⟩ := bindS h0
  rcases condS h1 with ⟨hc1, h1⟩ | ⟨hc1, h1⟩
  · rw [hc1]
    cbv
    rcases condS h1 with ⟨hc2, h1⟩ | ⟨hc2, h1⟩
    · rw [hc2]
      cbv
      cases h1
      try dsimp only at h0
      cases h0
      exact fin_ok hX rfl ⟨[3], _, _, ⟨rfl, rfl⟩, rfl, rfl, rfl, rfl, by cbv; try simp⟩
    · rw [hc2]
      cbv
      cases h1
      try dsimp only at h0
      cases h0
      exact fin_ok hX rfl ⟨[3], _, _, ⟨rfl, rfl⟩, rfl, rfl, rfl, rfl, by cbv; try simp⟩
  · as_aux_lemma =>
    rw [hc1]
    cbv
    cases h1
    try dsimp only at h0
    obtain ⟨l47, hi, h0⟩ := bindS h0
    obtain ⟨I2, hI2, hi⟩ := loopS hi
    refine loop1 tab_holds eqs_holds mixed [] hO hX I2 (fun y => [(4, .junk), (9, .junk), (5, .c (.sl 3)), (6, .c (.int .i64 y.2.1))]) (fun y => [(3, .own 29 .i2 y.2.2)]) (fun y => y.1) _ (by kernel_rfl) hi (by cbv; try simp) ?_
    refine allp ?_
    intro n2
    refine allp ?_
    intro at2
    intro l44 hi
    cbv
    rw [hI2] at hi
    obtain ⟨n2, rfl, x2, h1, hi2⟩ := iterS hi
    unfold m_periodic_spread_L2 at h1
    try dsimp only at h1
    obtain ⟨x64, h2, h1⟩ := bindS h1
    rcases condS h2 with ⟨hc3, h2⟩ | ⟨hc3, h2⟩
    · as_aux_lemma =>
      rw [hc3]
      cbv
      cases h2
      try dsimp only at h1
      rcases condS h1 with ⟨hc4, h1⟩ | ⟨hc4, h1⟩
      · as_aux_lemma =>
        rw [hc4]
        cbv
        obtain ⟨l46, hi, h1⟩ := bindS h1
        obtain ⟨I1, hI1, hi⟩ := loopS hi
        refine loop1 tab_holds eqs_holds mixed [] hO hX I1 (fun y => [(23, .junk), (32, .junk), (5, .c (.sl 3)), (35, .c (.int .i64 y.2.1))]) (fun y => [(3, .own 29 .i2 y.2.2)]) (fun y => y.1) _ (by kernel_rfl) hi (by cbv; try simp) ?_
        refine allp ?_
        intro n1
        refine allp ?_
        intro x66
        intro l45 hi
        cbv
        rw [hI1] at hi
        obtain ⟨n1, rfl, x1, h2, hi1⟩ := iterS hi
        unfold m_periodic_spread_L1 at h2
        try dsimp only at h2
        rcases condS h2 with ⟨hc5, h2⟩ | ⟨hc5, h2⟩
        · rw [hc5]
          cbv
          obtain ⟨hg6, h2⟩ := grdS h2
          refine ⟨idx_of hO hg6, ?_⟩
          obtain ⟨hg7, h2⟩ := grdS h2
          refine ⟨kin_of hO hg7, ?_⟩
          obtain ⟨hg8, h2⟩ := grdS h2
          refine ⟨inr_of hO hg8, ?_⟩
          obtain ⟨hg9, h2⟩ := grdS h2
          refine ⟨inr_of hO hg9, ?_⟩
          obtain ⟨hg10, h2⟩ := grdS h2
          refine ⟨room_of hO hg10, ?_⟩
          obtain ⟨hg11, h2⟩ := grdS h2
          refine ⟨room_of hO hg11, ?_⟩
          obtain ⟨hg12, h2⟩ := grdS h2
          refine ⟨inr_of hO hg12, ?_⟩
          cases h2
          exact ⟨_, [0, 1, 2, 6], nextI hI1 hi1, by cbv; try simp, by first | exact Nat.lt_succ_self _ | omega⟩
        · rw [hc5]
          cbv
          cases h2
          cases exitI hi1
          try dsimp only at h1
          obtain ⟨hg13, h1⟩ := grdS h1
          refine ⟨inr_of hO hg13, ?_⟩
          cases h1
          exact ⟨_, [0, 1, 2, 3], nextI hI2 hi2, by cbv; try simp, by first | exact Nat.lt_succ_self _ | omega⟩
      · as_aux_lemma =>
        rw [hc4]
        cbv
        cases h1
        cases exitI hi2
        try dsimp only at h0
        refine call_inline tab_holds eqs_holds mixed [(7, (.seg 1 [0, 1, 2, 3, 4, 5, 6, 7, 8, 9, 10, 11, 12] .fin), []), (8, (.seg 1 [0, 1, 2, 3, 4, 5, 6, 7, 8, 9, 10, 11, 12, 13] .fin), [14])] hO hX (by kernel_rfl) Try.func68 (by kernel_rfl) (by kernel_rfl) rfl ?_
        intro X1 hX1 hF1
        cbv
        obtain ⟨l48, hv, h0⟩ := bindS h0
        refine srt_joined hO hX1 (i := 3) rfl hv ?_
        cbv
        obtain ⟨l54, hi, h0⟩ := bindS h0
        obtain ⟨I3, hI3, hi⟩ := loopS hi
        refine loop1 tab_holds eqs_holds mixed [(7, (.seg 1 [0, 1, 2, 3, 4, 5, 6, 7, 8, 9, 10, 11, 12] .fin), []), (8, (.seg 1 [0, 1, 2, 3, 4, 5, 6, 7, 8, 9, 10, 11, 12, 13] .fin), [14])] hO hX1 I3 (fun y => [(2, .junk), (3, .c (.sl 5)), (11, .c (.int .i64 y.2.1))]) (fun y => [(5, .own 29 .i2 y.2.2)]) (fun y => y.1) _ (by kernel_rfl) hi (by cbv; try simp) ?_
        refine allp ?_
        intro n3
        refine allp ?_
        intro x70
        intro l51 hi
        cbv
        rw [hI3] at hi
        obtain ⟨n3, rfl, x3, h1, hi3⟩ := iterS hi
        unfold m_periodic_spread_L3 at h1
        try dsimp only at h1
        rcases condS h1 with ⟨hc14, h1⟩ | ⟨hc14, h1⟩
        · as_aux_lemma =>
          rw [hc14]
          cbv
          obtain ⟨hg15, h1⟩ := grdS h1
          refine ⟨idx_of hO hg15, ?_⟩
          obtain ⟨hg16, h1⟩ := grdS h1
          refine ⟨kin_of hO hg16, ?_⟩
          obtain ⟨x72, h2, h1⟩ := bindS h1
          rcases condS h2 with ⟨hc17, h2⟩ | ⟨hc17, h2⟩
          · as_aux_lemma =>
            rw [hc17]
            cbv
            obtain ⟨hg18, h2⟩ := grdS h2
            refine ⟨inr_of hO hg18, ?_⟩
            obtain ⟨hg19, h2⟩ := grdS h2
            refine ⟨idx_of hO hg19, ?_⟩
            obtain ⟨hg20, h2⟩ := grdS h2
            refine ⟨kin_of hO hg20, ?_⟩
            cases h2
            try dsimp only at h1
            obtain ⟨l53, h2, h1⟩ := bindS h1
            rcases condS h2 with ⟨hc21, h2⟩ | ⟨hc21, h2⟩
            · rw [hc21]
              cbv
              obtain ⟨hg22, h2⟩ := grdS h2
              refine ⟨inr_of hO hg22, ?_⟩
              refine ⟨inr_of hO hg22, ?_⟩
              obtain ⟨hg23, h2⟩ := grdS h2
              refine ⟨idx_of hO hg23, ?_⟩
              obtain ⟨hg24, h2⟩ := grdS h2
              refine ⟨kin_of hO hg24, ?_⟩
              cases h2
              try dsimp only at h1
              refine ⟨idx_of hO hg23, ?_⟩
              refine ⟨kin_of hO hg24, ?_⟩
              obtain ⟨hg25, h1⟩ := grdS h1
              refine ⟨inr_of hO hg25, ?_⟩
              cases h1
              exact ⟨_, [0, 1, 2, 3, 4, 5], nextI hI3 hi3, by cbv; try simp, by first | exact Nat.lt_succ_self _ | omega⟩
            · rw [hc21]
              cbv
              obtain ⟨hg26, h2⟩ := grdS h2
              refine ⟨room_of hO hg26, ?_⟩
              obtain ⟨hg27, h2⟩ := grdS h2
              refine ⟨room_of hO hg27, ?_⟩
              cases h2
              try dsimp only at h1
              obtain ⟨hg28, h1⟩ := grdS h1
              refine ⟨inr_of hO hg28, ?_⟩
              cases h1
              exact ⟨_, [0, 1, 2, 3, 4, 8], nextI hI3 hi3, by cbv; try simp, by first | exact Nat.lt_succ_self _ | omega⟩
          · rw [hc17]
            cbv
            cases h2
            try dsimp only at h1
            obtain ⟨l53, h2, h1⟩ := bindS h1
            replace h2 := condF h2 rfl
            obtain ⟨hg29, h2⟩ := grdS h2
            refine ⟨room_of hO hg29, ?_⟩
            obtain ⟨hg30, h2⟩ := grdS h2
            refine ⟨room_of hO hg30, ?_⟩
            cases h2
            try dsimp only at h1
            obtain ⟨hg31, h1⟩ := grdS h1
            refine ⟨inr_of hO hg31, ?_⟩
            cases h1
            exact ⟨_, [0, 1, 2, 3, 4, 8], nextI hI3 hi3, by cbv; try simp, by first | exact Nat.lt_succ_self _ | omega⟩
        · rw [hc14]
          cbv
          cases h1
          cases exitI hi3
          try dsimp only at h0
          refine hF1 _ _ ?_
          cbv
          cases h0
          exact fin_ok hX rfl ⟨[5], _, _, ⟨rfl, rfl⟩, rfl, rfl, rfl, rfl, by cbv; try simp⟩
    · as_aux_lemma =>
      rw [hc3]
      cbv
      cases h2
      try dsimp only at h1
      replace h1 := condF h1 rfl
      cases h1
      cases exitI hi2
      try dsimp only at h0
      refine call_inline tab_holds eqs_holds mixed [(7, (.seg 1 [0, 1, 2, 3, 4, 5, 6, 7, 8, 9, 10, 11, 12] .fin), []), (8, (.seg 1 [0, 1, 2, 3, 4, 5, 6, 7, 8, 9, 10, 11, 12, 13] .fin), [14])] hO hX (by kernel_rfl) Try.func68 (by kernel_rfl) (by kernel_rfl) rfl ?_
      intro X2 hX2 hF2
      cbv
      obtain ⟨l48, hv, h0⟩ := bindS h0
      refine srt_joined hO hX2 (i := 3) rfl hv ?_
      cbv
      obtain ⟨l54, hi, h0⟩ := bindS h0
      obtain ⟨I3, hI3, hi⟩ := loopS hi
      refine loop1 tab_holds eqs_holds mixed [(7, (.seg 1 [0, 1, 2, 3, 4, 5, 6, 7, 8, 9, 10, 11, 12] .fin), []), (8, (.seg 1 [0, 1, 2, 3, 4, 5, 6, 7, 8, 9, 10, 11, 12, 13] .fin), [14])] hO hX2 I3 (fun y => [(2, .junk), (3, .c (.sl 5)), (11, .c (.int .i64 y.2.1))]) (fun y => [(5, .own 29 .i2 y.2.2)]) (fun y => y.1) _ (by kernel_rfl) hi (by cbv; try simp) ?_
      refine allp ?_
      intro n3
      refine allp ?_
      intro x70
      intro l51 hi
      cbv
      rw [hI3] at hi
      obtain ⟨n3, rfl, x3, h1, hi3⟩ := iterS hi
      unfold m_periodic_spread_L3 at h1
      try dsimp only at h1
      rcases condS h1 with ⟨hc32, h1⟩ | ⟨hc32, h1⟩
      · as_aux_lemma =>
        rw [hc32]
        cbv
        obtain ⟨hg33, h1⟩ := grdS h1
        refine ⟨idx_of hO hg33, ?_⟩
        obtain ⟨hg34, h1⟩ := grdS h1
        refine ⟨kin_of hO hg34, ?_⟩
        obtain ⟨x72, h2, h1⟩ := bindS h1
        rcases condS h2 with ⟨hc35, h2⟩ | ⟨hc35, h2⟩
        · as_aux_lemma =>
          rw [hc35]
          cbv
          obtain ⟨hg36, h2⟩ := grdS h2
          refine ⟨inr_of hO hg36, ?_⟩
          obtain ⟨hg37, h2⟩ := grdS h2
          refine ⟨idx_of hO hg37, ?_⟩
          obtain ⟨hg38, h2⟩ := grdS h2
          refine ⟨kin_of hO hg38, ?_⟩
          cases h2
          try dsimp only at h1
          obtain ⟨l53, h2, h1⟩ := bindS h1
          rcases condS h2 with ⟨hc39, h2⟩ | ⟨hc39, h2⟩
          · rw [hc39]
            cbv
            obtain ⟨hg40, h2⟩ := grdS h2
            refine ⟨inr_of hO hg40, ?_⟩
            refine ⟨inr_of hO hg40, ?_⟩
            obtain ⟨hg41, h2⟩ := grdS h2
            refine ⟨idx_of hO hg41, ?_⟩
            obtain ⟨hg42, h2⟩ := grdS h2
            refine ⟨kin_of hO hg42, ?_⟩
            cases h2
            try dsimp only at h1
            refine ⟨idx_of hO hg41, ?_⟩
            refine ⟨kin_of hO hg42, ?_⟩
            obtain ⟨hg43, h1⟩ := grdS h1
            refine ⟨inr_of hO hg43, ?_⟩
            cases h1
            exact ⟨_, [0, 1, 2, 3, 4, 5], nextI hI3 hi3, by cbv; try simp, by first | exact Nat.lt_succ_self _ | omega⟩
          · rw [hc39]
            cbv
            obtain ⟨hg44, h2⟩ := grdS h2
            refine ⟨room_of hO hg44, ?_⟩
            obtain ⟨hg45, h2⟩ := grdS h2
            refine ⟨room_of hO hg45, ?_⟩
            cases h2
            try dsimp only at h1
            obtain ⟨hg46, h1⟩ := grdS h1
            refine ⟨inr_of hO hg46, ?_⟩
            cases h1
            exact ⟨_, [0, 1, 2, 3, 4, 8], nextI hI3 hi3, by cbv; try simp, by first | exact Nat.lt_succ_self _ | omega⟩
        · rw [hc35]
          cbv
          cases h2
          try dsimp only at h1
          obtain ⟨l53, h2, h1⟩ := bindS h1
          replace h2 := condF h2 rfl
          obtain ⟨hg47, h2⟩ := grdS h2
          refine ⟨room_of hO hg47, ?_⟩
          obtain ⟨hg48, h2⟩ := grdS h2
          refine ⟨room_of hO hg48, ?_⟩
          cases h2
          try dsimp only at h1
          obtain ⟨hg49, h1⟩ := grdS h1
          refine ⟨inr_of hO hg49, ?_⟩
          cases h1
          exact ⟨_, [0, 1, 2, 3, 4, 8], nextI hI3 hi3, by cbv; try simp, by first | exact Nat.lt_succ_self _ | omega⟩
      · rw [hc32]
        cbv
        cases h1
        cases exitI hi3
        try dsimp only at h0
        refine hF2 _ _ ?_
        cbv
        cases h0
        exact fin_ok hX rfl ⟨[5], _, _, ⟨rfl, rfl⟩, rfl, rfl, rfl, rfl, by cbv; try simp⟩
set_option maxHeartbeats 40000000 in
theorem fn_periodic_combine_1 {O0 : Ops} (hO0 : O0 = std) {n_1 : Int} {l_1 : List (Int × Int)} {r1 : Int} {r2 : Bool} (h : m_periodic_combine_1 O0 n_1 l_1 = some (r1, r2)) :
    Fn Try.prog 76 [.c (.sl 0), .c (.int .i64 n_1)] [.arr false .i2 l_1] (fun v c => v = .tup [.one (.int .i64 r1), .one (.bool r2)] ∧ c = []) := by
  refine fn_run tab_holds eqs_holds mixed [] Try.func76 (by kernel_rfl) (by kernel_rfl) (Nat.le_of_ble_eq_true rfl) ?_
  intro O X hO hX
  rw [hO0, ← hO] at h
  unfold m_periodic_combine_1 at h
  have h0 := h; clear h
  cbv
  obtain ⟨hg1, h0⟩ := grdS h0
  refine ⟨nz_of hO hg1, ?_⟩
  obtain ⟨hg2, h0⟩ := grdS h0
  refine ⟨inr_of hO hg2, ?_⟩
  rcases condS h0 with ⟨hc3, h0⟩ | ⟨hc3, h0⟩
  · rw [hc3]
    cbv
    cases h0
    exact fin_ok hX rfl ⟨[], _, _, ⟨rfl, rfl⟩, rfl, rfl, rfl, rfl, by cbv; try simp⟩
  · rw [hc3]
    cbv
    refine ⟨nz_of hO hg1, ?_⟩
    rcases condS h0 with ⟨hc4, h0⟩ | ⟨hc4, h0⟩
    · rw [hc4]
      cbv
      refine ⟨nz_of hO hg1, ?_⟩
      refine ⟨inr_of hO hg2, ?_⟩
      obtain ⟨hg5, h0⟩ := grdS h0
      refine ⟨idx_of hO hg5, ?_⟩
      obtain ⟨hg6, h0⟩ := grdS h0
      refine ⟨kin_of hO hg6, ?_⟩
      cases h0
      exact fin_ok hX rfl ⟨[], _, _, ⟨rfl, rfl⟩, rfl, rfl, rfl, rfl, by cbv; try simp⟩
    · rw [hc4]
      cbv
      refine ⟨nz_of hO hg1, ?_⟩
      refine ⟨inr_of hO hg2, ?_⟩
      obtain ⟨hg7, h0⟩ := grdS h0
      refine ⟨idx_of hO hg7, ?_⟩
      obtain ⟨hg8, h0⟩ := grdS h0
      refine ⟨kin_of hO hg8, ?_⟩
      cases h0
      exact fin_ok hX rfl ⟨[], _, _, ⟨rfl, rfl⟩, rfl, rfl, rfl, rfl, by cbv; try simp⟩
set_option maxHeartbeats 40000000 in
theorem fn_periodic_Union_1 {O0 : Ops} (hO0 : O0 = std) {a_1 : Bool} {b_1 : Bool} {r1 : Bool} (h : m_periodic_Union_1 O0 a_1 b_1 = some r1) :
    Fn Try.prog 40 [.c (.bool a_1), .c (.bool b_1)] [] (fun v c => v = .c (.bool r1) ∧ c = []) := by
  refine fn_run tab_holds eqs_holds mixed [] Try.func40 (by kernel_rfl) (by kernel_rfl) (Nat.le_of_ble_eq_true rfl) ?_
  intro O X hO hX
  rw [hO0, ← hO] at h
  unfold m_periodic_Union_1 at h
  have h0 := h; clear h
  cbv
  obtain ⟨x79, h1, h0⟩ := bindS h0
  rcases condS h1 with ⟨hc1, h1⟩ | ⟨hc1, h1⟩
  · rw [hc1]
    cbv
    cases h1
    try dsimp only at h0
    cases h0
    exact fin_ok hX rfl ⟨[], _, _, ⟨rfl, rfl⟩, rfl, rfl, rfl, rfl, by cbv; try simp⟩
  · rw [hc1]
    cbv
    cases h1
    try dsimp only at h0
    cases h0
    exact fin_ok hX rfl ⟨[], _, _, ⟨rfl, rfl⟩, rfl, rfl, rfl, rfl, by cbv; try simp⟩
end Go.Proofs.Ytlpbdikmhngmfaa
