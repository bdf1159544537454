/-
  The code does what its models say (printed by lift.py).
-/
import Derived.Test.YtmnhfaaaaejpaaaNM
import Derived.Test.YtmnhfaaaaejpaaaNNoW
namespace Go.Proofs.Ytmnhfaaaaejpaaa
open Go.RowKit
set_option maxRecDepth 100000

set_option maxHeartbeats 40000000 in
theorem fn_ref01_Div {O0 : Ops} (hO0 : O0 = std) {a_1 : Int} {b_1 : Int} {r1 : Int} {r2 : Int} {r3 : Int} (h : m_ref01_Div O0 a_1 b_1 = some (r1, r2, r3)) :
    Fn Try.prog 73 [.c (.int .i64 a_1), .c (.int .i64 b_1)] [] (fun v c => v = .tup [.one (.int .i64 r1), .one (.int .i64 r2), .one (.int .i64 r3)] ∧ c = []) := by
  refine fn_run tab_holds eqs_holds mixed [(5, (.seg 1 [0, 1, 2, 3, 4, 5, 6, 7] .fin), [])] Try.func73 (by kernel_rfl) (by kernel_rfl) (Nat.le_of_ble_eq_true rfl) ?_
  intro O X hO hX
  rw [hO0, ← hO] at h
  unfold m_ref01_Div at h
  have h0 := h; clear h
  cbv
  rcases condS h0 with ⟨hc1, h0⟩ | ⟨hc1, h0⟩
  · rw [hc1]
    cbv
    cases h0
    exact fin_ok hX rfl ⟨[], _, _, ⟨rfl, rfl⟩, rfl, rfl, rfl, rfl, by cbv; try simp⟩
  · as_aux_lemma =>
    rw [hc1]
    cbv
    obtain ⟨x207, h1, h0⟩ := bindS h0
    rcases condS h1 with ⟨hc2, h1⟩ | ⟨hc2, h1⟩
    · as_aux_lemma =>
      rw [hc2]
      cbv
      cases h1
      try dsimp only at h0
      rcases condS h0 with ⟨hc3, h0⟩ | ⟨hc3, h0⟩
      · rw [hc3]
        cbv
        cases h0
        exact fin_ok hX rfl ⟨[], _, _, ⟨rfl, rfl⟩, rfl, rfl, rfl, rfl, by cbv; try simp⟩
      · as_aux_lemma =>
        rw [hc3]
        cbv
        obtain ⟨hg4, h0⟩ := grdS h0
        refine ⟨nz_of hO hg4, ?_⟩
        obtain ⟨hg5, h0⟩ := grdS h0
        refine ⟨inr_of hO hg5, ?_⟩
        obtain ⟨x209, h1, h0⟩ := bindS h0
        refine ⟨nz_of hO hg4, ?_⟩
        rcases condS h1 with ⟨hc6, h1⟩ | ⟨hc6, h1⟩
        · rw [hc6]
          cbv
          cases h1
          try dsimp only at h0
          obtain ⟨⟨q4, r4⟩, h1, h0⟩ := bindS h0
          rcases condS h1 with ⟨hc7, h1⟩ | ⟨hc7, h1⟩
          · rw [hc7]
            cbv
            obtain ⟨hg8, h1⟩ := grdS h1
            refine ⟨inr_of hO hg8, ?_⟩
            obtain ⟨hg9, h1⟩ := grdS h1
            refine ⟨inr_of hO hg9, ?_⟩
            cases h1
            try dsimp only at h0
            cases h0
            exact fin_ok hX rfl ⟨[], _, _, ⟨rfl, rfl⟩, rfl, rfl, rfl, rfl, by cbv; try simp⟩
          · rw [hc7]
            cbv
            cases h1
            try dsimp only at h0
            cases h0
            exact fin_ok hX rfl ⟨[], _, _, ⟨rfl, rfl⟩, rfl, rfl, rfl, rfl, by cbv; try simp⟩
        · rw [hc6]
          cbv
          cases h1
          try dsimp only at h0
          obtain ⟨⟨q4, r4⟩, h1, h0⟩ := bindS h0
          replace h1 := condF h1 rfl
          cases h1
          try dsimp only at h0
          cases h0
          exact fin_ok hX rfl ⟨[], _, _, ⟨rfl, rfl⟩, rfl, rfl, rfl, rfl, by cbv; try simp⟩
    · as_aux_lemma =>
      rw [hc2]
      cbv
      cases h1
      try dsimp only at h0
      replace h0 := condF h0 rfl
      obtain ⟨hg10, h0⟩ := grdS h0
      refine ⟨nz_of hO hg10, ?_⟩
      obtain ⟨hg11, h0⟩ := grdS h0
      refine ⟨inr_of hO hg11, ?_⟩
      obtain ⟨x209, h1, h0⟩ := bindS h0
      refine ⟨nz_of hO hg10, ?_⟩
      rcases condS h1 with ⟨hc12, h1⟩ | ⟨hc12, h1⟩
      · rw [hc12]
        cbv
        cases h1
        try dsimp only at h0
        obtain ⟨⟨q4, r4⟩, h1, h0⟩ := bindS h0
        rcases condS h1 with ⟨hc13, h1⟩ | ⟨hc13, h1⟩
        · rw [hc13]
          cbv
          obtain ⟨hg14, h1⟩ := grdS h1
          refine ⟨inr_of hO hg14, ?_⟩
          obtain ⟨hg15, h1⟩ := grdS h1
          refine ⟨inr_of hO hg15, ?_⟩
          cases h1
          try dsimp only at h0
          cases h0
          exact fin_ok hX rfl ⟨[], _, _, ⟨rfl, rfl⟩, rfl, rfl, rfl, rfl, by cbv; try simp⟩
        · rw [hc13]
          cbv
          cases h1
          try dsimp only at h0
          cases h0
          exact fin_ok hX rfl ⟨[], _, _, ⟨rfl, rfl⟩, rfl, rfl, rfl, rfl, by cbv; try simp⟩
      · rw [hc12]
        cbv
        cases h1
        try dsimp only at h0
        obtain ⟨⟨q4, r4⟩, h1, h0⟩ := bindS h0
        replace h1 := condF h1 rfl
        cases h1
        try dsimp only at h0
        cases h0
        exact fin_ok hX rfl ⟨[], _, _, ⟨rfl, rfl⟩, rfl, rfl, rfl, rfl, by cbv; try simp⟩
set_option maxHeartbeats 40000000 in
theorem fn_ref01_Floor {O0 : Ops} (hO0 : O0 = std) {a_1 : Int} {b_1 : Int} {r1 : Int} (h : m_ref01_Floor O0 a_1 b_1 = some r1) :
    Fn Try.prog 52 [.c (.int .i64 a_1), .c (.int .i64 b_1)] [] (fun v c => v = .c (.int .i64 r1) ∧ c = []) := by
  refine fn_run tab_holds eqs_holds mixed [] Try.func52 (by kernel_rfl) (by kernel_rfl) (Nat.le_of_ble_eq_true rfl) ?_
  intro O X hO hX
  rw [hO0, ← hO] at h
  unfold m_ref01_Floor at h
  have h0 := h; clear h
  cbv
  obtain ⟨⟨n109, n110, n111⟩, hv, h0⟩ := bindS h0
  try dsimp only at h0
  refine call_is hO hX (fn_ref01_Div hO hv) (by kernel_rfl) [] rfl trivial rfl ?_
  cbv
  cases h0
  exact fin_ok hX rfl ⟨[], _, _, ⟨rfl, rfl⟩, rfl, rfl, rfl, rfl, by cbv; try simp⟩
set_option maxHeartbeats 40000000 in
theorem fn_ref05_Right {O0 : Ops} (hO0 : O0 = std) {day_1 : Int} {r1 : Bool} (h : m_ref05_Right O0 day_1 = some r1) :
    Fn Try.prog 99 [.c (.int .i64 day_1)] [] (fun v c => v = .c (.bool r1) ∧ c = []) := by
  refine fn_run tab_holds eqs_holds mixed [] Try.func99 (by kernel_rfl) (by kernel_rfl) (Nat.le_of_ble_eq_true rfl) ?_
  intro O X hO hX
  rw [hO0, ← hO] at h
  unfold m_ref05_Right at h
  have h0 := h; clear h
  cbv
  obtain ⟨x211, h1, h0⟩ := bindS h0
  rcases condS h1 with ⟨hc1, h1⟩ | ⟨hc1, h1⟩
  · rw [hc1]
    cbv
    cases h1
    try dsimp only at h0
    cases h0
    exact fin_ok hX rfl ⟨[], _, _, ⟨rfl, rfl⟩, rfl, rfl, rfl, rfl, by cbv; try simp⟩
  · rw [hc1]
    cbv
    cases h1
    try dsimp only at h0
    cases h0
    exact fin_ok hX rfl ⟨[], _, _, ⟨rfl, rfl⟩, rfl, rfl, rfl, rfl, by cbv; try simp⟩
set_option maxHeartbeats 40000000 in
theorem fn_ref05_Length {O0 : Ops} (hO0 : O0 = std) {year_1 : Int} {month_1 : Int} {r1 : Int} (h : m_ref05_Length O0 year_1 month_1 = some r1) :
    Fn Try.prog 100 [.c (.int .i64 year_1), .c (.int .i64 month_1)] [] (fun v c => v = .c (.int .i64 r1) ∧ c = []) := by
  refine fn_run tab_holds eqs_holds mixed [] Try.func100 (by kernel_rfl) (by kernel_rfl) (Nat.le_of_ble_eq_true rfl) ?_
  intro O X hO hX
  rw [hO0, ← hO] at h
  unfold m_ref05_Length at h
  have h0 := h; clear h
  cbv
  obtain ⟨x215, h1, h0⟩ := bindS h0
  rcases condS h1 with ⟨hc1, h1⟩ | ⟨hc1, h1⟩
  · rw [hc1]
    cbv
    cases h1
    try dsimp only at h0
    replace h0 := condT h0 rfl
    cases h0
    exact fin_ok hX rfl ⟨[], _, _, ⟨rfl, rfl⟩, rfl, rfl, rfl, rfl, by cbv; try simp⟩
  · as_aux_lemma =>
    rw [hc1]
    cbv
    rcases condS h1 with ⟨hc2, h1⟩ | ⟨hc2, h1⟩
    · rw [hc2]
      cbv
      cases h1
      try dsimp only at h0
      replace h0 := condT h0 rfl
      cases h0
      exact fin_ok hX rfl ⟨[], _, _, ⟨rfl, rfl⟩, rfl, rfl, rfl, rfl, by cbv; try simp⟩
    · as_aux_lemma =>
      rw [hc2]
      cbv
      rcases condS h1 with ⟨hc3, h1⟩ | ⟨hc3, h1⟩
      · rw [hc3]
        cbv
        cases h1
        try dsimp only at h0
        replace h0 := condT h0 rfl
        cases h0
        exact fin_ok hX rfl ⟨[], _, _, ⟨rfl, rfl⟩, rfl, rfl, rfl, rfl, by cbv; try simp⟩
      · as_aux_lemma =>
        rw [hc3]
        cbv
        cases h1
        try dsimp only at h0
        rcases condS h0 with ⟨hc4, h0⟩ | ⟨hc4, h0⟩
        · rw [hc4]
          cbv
          cases h0
          exact fin_ok hX rfl ⟨[], _, _, ⟨rfl, rfl⟩, rfl, rfl, rfl, rfl, by cbv; try simp⟩
        · as_aux_lemma =>
          rw [hc4]
          cbv
          obtain ⟨e1, h1, h0⟩ := bindS h0
          rcases condS h1 with ⟨hc5, h1⟩ | ⟨hc5, h1⟩
          · rw [hc5]
            cbv
            obtain ⟨hg6, h1⟩ := grdS h1
            refine ⟨nz_of hO hg6, ?_⟩
            rcases condS h1 with ⟨hc7, h1⟩ | ⟨hc7, h1⟩
            · rw [hc7]
              cbv
              cases h1
              try dsimp only at h0
              cases h0
              exact fin_ok hX rfl ⟨[], _, _, ⟨rfl, rfl⟩, rfl, rfl, rfl, rfl, by cbv; try simp⟩
            · rw [hc7]
              cbv
              cases h1
              try dsimp only at h0
              cases h0
              exact fin_ok hX rfl ⟨[], _, _, ⟨rfl, rfl⟩, rfl, rfl, rfl, rfl, by cbv; try simp⟩
          · as_aux_lemma =>
            rw [hc5]
            cbv
            cases h1
            try dsimp only at h0
            obtain ⟨x219, h1, h0⟩ := bindS h0
            rcases condS h1 with ⟨hc8, h1⟩ | ⟨hc8, h1⟩
            · rw [hc8]
              cbv
              cases h1
              try dsimp only at h0
              replace h0 := condT h0 rfl
              cases h0
              exact fin_ok hX rfl ⟨[], _, _, ⟨rfl, rfl⟩, rfl, rfl, rfl, rfl, by cbv; try simp⟩
            · rw [hc8]
              cbv
              rcases condS h1 with ⟨hc9, h1⟩ | ⟨hc9, h1⟩
              · rw [hc9]
                cbv
                cases h1
                try dsimp only at h0
                replace h0 := condT h0 rfl
                cases h0
                exact fin_ok hX rfl ⟨[], _, _, ⟨rfl, rfl⟩, rfl, rfl, rfl, rfl, by cbv; try simp⟩
              · rw [hc9]
                cbv
                rcases condS h1 with ⟨hc10, h1⟩ | ⟨hc10, h1⟩
                · rw [hc10]
                  cbv
                  cases h1
                  try dsimp only at h0
                  replace h0 := condT h0 rfl
                  cases h0
                  exact fin_ok hX rfl ⟨[], _, _, ⟨rfl, rfl⟩, rfl, rfl, rfl, rfl, by cbv; try simp⟩
                · rw [hc10]
                  cbv
                  cases h1
                  try dsimp only at h0
                  rcases condS h0 with ⟨hc11, h0⟩ | ⟨hc11, h0⟩
                  · rw [hc11]
                    cbv
                    cases h0
                    exact fin_ok hX rfl ⟨[], _, _, ⟨rfl, rfl⟩, rfl, rfl, rfl, rfl, by cbv; try simp⟩
                  · rw [hc11]
                    cbv
                    cases h0
                    exact fin_ok hX rfl ⟨[], _, _, ⟨rfl, rfl⟩, rfl, rfl, rfl, rfl, by cbv; try simp⟩
set_option maxHeartbeats 40000000 in
theorem fn_ref05_Date {O0 : Ops} (hO0 : O0 = std) {day_1 : Int} {r1 : Int} {r2 : Int} {r3 : Int} {r4 : Int} (h : m_ref05_Date O0 day_1 = some (r1, r2, r3, r4)) :
    Fn Try.prog 74 [.c (.int .i64 day_1)] [] (fun v c => v = .tup [.many [.int .i64 r1, .int .i64 r2, .int .i64 r3], .one (.int .i64 r4)] ∧ c = []) := by
  refine fn_run tab_holds eqs_holds mixed [] Try.func74 (by kernel_rfl) (by kernel_rfl) (Nat.le_of_ble_eq_true rfl) ?_
  intro O X hO hX
  rw [hO0, ← hO] at h
  unfold m_ref05_Date at h
  have h0 := h; clear h
  cbv
  obtain ⟨b64, hv, h0⟩ := bindS h0
  refine call_is hO hX (fn_ref05_Right hO hv) (by kernel_rfl) [] rfl trivial rfl ?_
  cbv
  rcases condS h0 with ⟨hc1, h0⟩ | ⟨hc1, h0⟩
  · rw [hc1]
    cbv
    cases h0
    exact fin_ok hX rfl ⟨[], _, _, ⟨rfl, rfl⟩, rfl, rfl, rfl, rfl, by cbv; try simp⟩
  · as_aux_lemma =>
    rw [hc1]
    cbv
    obtain ⟨hg2, h0⟩ := grdS h0
    refine ⟨inr_of hO hg2, ?_⟩
    obtain ⟨hg3, h0⟩ := grdS h0
    refine ⟨nz_of hO hg3, ?_⟩
    obtain ⟨hg4, h0⟩ := grdS h0
    refine ⟨inr_of hO hg4, ?_⟩
    obtain ⟨hg5, h0⟩ := grdS h0
    refine ⟨inr_of hO hg5, ?_⟩
    obtain ⟨hg6, h0⟩ := grdS h0
    refine ⟨inr_of hO hg6, ?_⟩
    refine ⟨nz_of hO hg3, ?_⟩
    obtain ⟨⟨n114, year2⟩, hi, h0⟩ := bindS h0
    obtain ⟨I1, hI1, hi⟩ := loopS hi
    refine loop1 tab_holds eqs_holds mixed [] hO hX I1 (fun y => [(4, .c (.int .i64 y.2.1)), (5, .c (.int .i64 y.2.2.1)), (6, .c (.int .i64 y.2.2.2))]) (fun _ => []) (fun y => y.1) _ (by kernel_rfl) hi (by cbv; try simp) ?_
    refine allp ?_
    intro n1
    refine allp ?_
    intro n113
    refine allp ?_
    intro year1
    intro k5 hi
    cbv
    rw [hI1] at hi
    obtain ⟨n1, rfl, x1, h1, hi1⟩ := iterS hi
    unfold m_ref05_Date_L1 at h1
    try dsimp only at h1
    obtain ⟨x213, h2, h1⟩ := bindS h1
    rcases condS h2 with ⟨hc7, h2⟩ | ⟨hc7, h2⟩
    · as_aux_lemma =>
      rw [hc7]
      cbv
      cases h2
      try dsimp only at h1
      rcases condS h1 with ⟨hc8, h1⟩ | ⟨hc8, h1⟩
      · rw [hc8]
        cbv
        obtain ⟨hg9, h1⟩ := grdS h1
        refine ⟨inr_of hO hg9, ?_⟩
        obtain ⟨hg10, h1⟩ := grdS h1
        refine ⟨inr_of hO hg10, ?_⟩
        obtain ⟨hg11, h1⟩ := grdS h1
        refine ⟨inr_of hO hg11, ?_⟩
        cases h1
        exact ⟨_, [0], nextI hI1 hi1, by cbv; try simp, by first | exact Nat.lt_succ_self _ | omega⟩
      · as_aux_lemma =>
        rw [hc8]
        cbv
        cases h1
        cases exitI hi1
        try dsimp only at h0
        obtain ⟨⟨n118, month2⟩, hi, h0⟩ := bindS h0
        obtain ⟨I2, hI2, hi⟩ := loopS hi
        refine loop1 tab_holds eqs_holds mixed [] hO hX I2 (fun y => [(4, .c (.int .i64 y.2.1)), (7, .c (.int .i64 y.2.2))]) (fun _ => []) (fun y => y.1) _ (by kernel_rfl) hi (by cbv; try simp) ?_
        refine allp ?_
        intro n2
        refine allp ?_
        intro n115
        intro month1 hi
        cbv
        rw [hI2] at hi
        obtain ⟨n2, rfl, x2, h1, hi2⟩ := iterS hi
        unfold m_ref05_Date_L2 at h1
        try dsimp only at h1
        obtain ⟨n116, hv, h1⟩ := bindS h1
        refine call_is hO hX (fn_ref05_Length hO hv) (by kernel_rfl) [] rfl trivial rfl ?_
        cbv
        rcases condS h1 with ⟨hc12, h1⟩ | ⟨hc12, h1⟩
        · rw [hc12]
          cbv
          obtain ⟨n117, hv, h1⟩ := bindS h1
          refine call_is hO hX (fn_ref05_Length hO hv) (by kernel_rfl) [] rfl trivial rfl ?_
          cbv
          obtain ⟨hg13, h1⟩ := grdS h1
          refine ⟨inr_of hO hg13, ?_⟩
          obtain ⟨hg14, h1⟩ := grdS h1
          refine ⟨inr_of hO hg14, ?_⟩
          cases h1
          exact ⟨_, [0], nextI hI2 hi2, by cbv; try simp, by first | exact Nat.lt_succ_self _ | omega⟩
        · rw [hc12]
          cbv
          cases h1
          cases exitI hi2
          try dsimp only at h0
          obtain ⟨hg15, h0⟩ := grdS h0
          refine ⟨inr_of hO hg15, ?_⟩
          cases h0
          exact fin_ok hX rfl ⟨[], _, _, ⟨rfl, rfl⟩, rfl, rfl, rfl, rfl, by cbv; try simp⟩
    · as_aux_lemma =>
      rw [hc7]
      cbv
      cases h2
      try dsimp only at h1
      replace h1 := condF h1 rfl
      cases h1
      cases exitI hi1
      try dsimp only at h0
      obtain ⟨⟨n118, month2⟩, hi, h0⟩ := bindS h0
      obtain ⟨I2, hI2, hi⟩ := loopS hi
      refine loop1 tab_holds eqs_holds mixed [] hO hX I2 (fun y => [(4, .c (.int .i64 y.2.1)), (7, .c (.int .i64 y.2.2))]) (fun _ => []) (fun y => y.1) _ (by kernel_rfl) hi (by cbv; try simp) ?_
      refine allp ?_
      intro n2
      refine allp ?_
      intro n115
      intro month1 hi
      cbv
      rw [hI2] at hi
      obtain ⟨n2, rfl, x2, h1, hi2⟩ := iterS hi
      unfold m_ref05_Date_L2 at h1
      try dsimp only at h1
      obtain ⟨n116, hv, h1⟩ := bindS h1
      refine call_is hO hX (fn_ref05_Length hO hv) (by kernel_rfl) [] rfl trivial rfl ?_
      cbv
      rcases condS h1 with ⟨hc16, h1⟩ | ⟨hc16, h1⟩
      · rw [hc16]
        cbv
        obtain ⟨n117, hv, h1⟩ := bindS h1
        refine call_is hO hX (fn_ref05_Length hO hv) (by kernel_rfl) [] rfl trivial rfl ?_
        cbv
        obtain ⟨hg17, h1⟩ := grdS h1
        refine ⟨inr_of hO hg17, ?_⟩
        obtain ⟨hg18, h1⟩ := grdS h1
        refine ⟨inr_of hO hg18, ?_⟩
        cases h1
        exact ⟨_, [0], nextI hI2 hi2, by cbv; try simp, by first | exact Nat.lt_succ_self _ | omega⟩
      · rw [hc16]
        cbv
        cases h1
        cases exitI hi2
        try dsimp only at h0
        obtain ⟨hg19, h0⟩ := grdS h0
        refine ⟨inr_of hO hg19, ?_⟩
        cases h0
        exact fin_ok hX rfl ⟨[], _, _, ⟨rfl, rfl⟩, rfl, rfl, rfl, rfl, by cbv; try simp⟩
set_option maxHeartbeats 40000000 in
theorem fn_ref05_leap {O0 : Ops} (hO0 : O0 = std) {year_1 : Int} {r1 : Bool} (h : m_ref05_leap O0 year_1 = some r1) :
    Fn Try.prog 101 [.c (.int .i64 year_1)] [] (fun v c => v = .c (.bool r1) ∧ c = []) := by
  refine fn_run tab_holds eqs_holds mixed [] Try.func101 (by kernel_rfl) (by kernel_rfl) (Nat.le_of_ble_eq_true rfl) ?_
  intro O X hO hX
  rw [hO0, ← hO] at h
  unfold m_ref05_leap at h
  have h0 := h; clear h
  cbv
  obtain ⟨x222, h1, h0⟩ := bindS h0
  rcases condS h1 with ⟨hc1, h1⟩ | ⟨hc1, h1⟩
  · rw [hc1]
    cbv
    rcases condS h1 with ⟨hc2, h1⟩ | ⟨hc2, h1⟩
    · rw [hc2]
      cbv
      obtain ⟨hg3, h1⟩ := grdS h1
      refine ⟨nz_of hO hg3, ?_⟩
      obtain ⟨hg4, h1⟩ := grdS h1
      refine ⟨nz_of hO hg4, ?_⟩
      cases h1
      try dsimp only at h0
      cases h0
      exact fin_ok hX rfl ⟨[], _, _, ⟨rfl, rfl⟩, rfl, rfl, rfl, rfl, by cbv; try simp⟩
    · rw [hc2]
      cbv
      obtain ⟨hg5, h1⟩ := grdS h1
      refine ⟨nz_of hO hg5, ?_⟩
      obtain ⟨hg6, h1⟩ := grdS h1
      refine ⟨nz_of hO hg6, ?_⟩
      obtain ⟨hg7, h1⟩ := grdS h1
      refine ⟨nz_of hO hg7, ?_⟩
      cases h1
      try dsimp only at h0
      cases h0
      exact fin_ok hX rfl ⟨[], _, _, ⟨rfl, rfl⟩, rfl, rfl, rfl, rfl, by cbv; try simp⟩
  · rw [hc1]
    cbv
    obtain ⟨hg8, h1⟩ := grdS h1
    refine ⟨nz_of hO hg8, ?_⟩
    cases h1
    try dsimp only at h0
    cases h0
    exact fin_ok hX rfl ⟨[], _, _, ⟨rfl, rfl⟩, rfl, rfl, rfl, rfl, by cbv; try simp⟩
set_option maxHeartbeats 40000000 in
theorem fn_ref05_Leap {O0 : Ops} (hO0 : O0 = std) {year_1 : Int} {r1 : Bool} (h : m_ref05_Leap O0 year_1 = some r1) :
    Fn Try.prog 102 [.c (.int .i64 year_1)] [] (fun v c => v = .c (.bool r1) ∧ c = []) := by
  refine fn_run tab_holds eqs_holds mixed [] Try.func102 (by kernel_rfl) (by kernel_rfl) (Nat.le_of_ble_eq_true rfl) ?_
  intro O X hO hX
  rw [hO0, ← hO] at h
  unfold m_ref05_Leap at h
  have h0 := h; clear h
  cbv
  obtain ⟨x230, h1, h0⟩ := bindS h0
  rcases condS h1 with ⟨hc1, h1⟩ | ⟨hc1, h1⟩
  · rw [hc1]
    cbv
    rcases condS h1 with ⟨hc2, h1⟩ | ⟨hc2, h1⟩
    · rw [hc2]
      cbv
      obtain ⟨hg3, h1⟩ := grdS h1
      refine ⟨nz_of hO hg3, ?_⟩
      cases h1
      try dsimp only at h0
      cases h0
      exact fin_ok hX rfl ⟨[], _, _, ⟨rfl, rfl⟩, rfl, rfl, rfl, rfl, by cbv; try simp⟩
    · rw [hc2]
      cbv
      cases h1
      try dsimp only at h0
      cases h0
      exact fin_ok hX rfl ⟨[], _, _, ⟨rfl, rfl⟩, rfl, rfl, rfl, rfl, by cbv; try simp⟩
  · rw [hc1]
    cbv
    cases h1
    try dsimp only at h0
    cases h0
    exact fin_ok hX rfl ⟨[], _, _, ⟨rfl, rfl⟩, rfl, rfl, rfl, rfl, by cbv; try simp⟩
end Go.Proofs.Ytmnhfaaaaejpaaa
