/-
  The code does what its models say (printed by lift.py).
-/
import Derived.Test.YtmnhfaaaaejpaaaNM
import Derived.Test.YtmnhfaaaaejpaaaNNoW
import Derived.Test.YtmnhfaaaaejpaaaNW6
namespace Go.Proofs.Ytmnhfaaaaejpaaa
open Go.RowKit
set_option maxRecDepth 100000

set_option maxHeartbeats 40000000 in
theorem fn_recurrence_Position {O0 : Ops} (hO0 : O0 = std) {n_1 : Int} {of_1 : Int} {r1 : Int} {r2 : Bool} (h : m_recurrence_Position O0 n_1 of_1 = some (r1, r2)) :
    Fn Try.prog 27 [.c (.int .i64 n_1), .c (.int .i64 of_1)] [] (fun v c => v = .tup [.one (.int .i64 r1), .one (.bool r2)] ∧ c = []) := by
  refine fn_run tab_holds eqs_holds mixed [] Try.func27 (by kernel_rfl) (by kernel_rfl) (Nat.le_of_ble_eq_true rfl) ?_
  intro O X hO hX
  rw [hO0, ← hO] at h
  unfold m_recurrence_Position at h
  have h0 := h; clear h
  cbv
  obtain ⟨x130, h1, h0⟩ := bindS h0
  rcases condS h1 with ⟨hc1, h1⟩ | ⟨hc1, h1⟩
  · as_aux_lemma =>
    rw [hc1]
    cbv
    cases h1
    try dsimp only at h0
    obtain ⟨e1, h1, h0⟩ := bindS h0
    rcases condS h1 with ⟨hc2, h1⟩ | ⟨hc2, h1⟩
    · rw [hc2]
      cbv
      obtain ⟨hg3, h1⟩ := grdS h1
      refine ⟨inr_of hO hg3, ?_⟩
      cases h1
      try dsimp only at h0
      cases h0
      exact fin_ok hX rfl ⟨[], _, _, ⟨rfl, rfl⟩, rfl, rfl, rfl, rfl, by cbv; try simp⟩
    · as_aux_lemma =>
      rw [hc2]
      cbv
      obtain ⟨x133, h2, h1⟩ := bindS h1
      rcases condS h2 with ⟨hc4, h2⟩ | ⟨hc4, h2⟩
      · rw [hc4]
        cbv
        rcases condS h2 with ⟨hc5, h2⟩ | ⟨hc5, h2⟩
        · rw [hc5]
          cbv
          obtain ⟨hg6, h2⟩ := grdS h2
          refine ⟨inr_of hO hg6, ?_⟩
          cases h2
          try dsimp only at h1
          rcases condS h1 with ⟨hc7, h1⟩ | ⟨hc7, h1⟩
          · rw [hc7]
            cbv
            obtain ⟨hg8, h1⟩ := grdS h1
            refine ⟨inr_of hO hg8, ?_⟩
            cases h1
            try dsimp only at h0
            cases h0
            exact fin_ok hX rfl ⟨[], _, _, ⟨rfl, rfl⟩, rfl, rfl, rfl, rfl, by cbv; try simp⟩
          · rw [hc7]
            cbv
            cases h1
            try dsimp only at h0
            cases h0
            exact fin_ok hX rfl ⟨[], _, _, ⟨rfl, rfl⟩, rfl, rfl, rfl, rfl, by cbv; try simp⟩
        · rw [hc5]
          cbv
          cases h2
          try dsimp only at h1
          replace h1 := condF h1 rfl
          cases h1
          try dsimp only at h0
          cases h0
          exact fin_ok hX rfl ⟨[], _, _, ⟨rfl, rfl⟩, rfl, rfl, rfl, rfl, by cbv; try simp⟩
      · rw [hc4]
        cbv
        cases h2
        try dsimp only at h1
        replace h1 := condF h1 rfl
        cases h1
        try dsimp only at h0
        cases h0
        exact fin_ok hX rfl ⟨[], _, _, ⟨rfl, rfl⟩, rfl, rfl, rfl, rfl, by cbv; try simp⟩
  · as_aux_lemma =>
    rw [hc1]
    cbv
    cases h1
    try dsimp only at h0
    obtain ⟨e1, h1, h0⟩ := bindS h0
    replace h1 := condF h1 rfl
    obtain ⟨x133, h2, h1⟩ := bindS h1
    rcases condS h2 with ⟨hc9, h2⟩ | ⟨hc9, h2⟩
    · rw [hc9]
      cbv
      rcases condS h2 with ⟨hc10, h2⟩ | ⟨hc10, h2⟩
      · rw [hc10]
        cbv
        obtain ⟨hg11, h2⟩ := grdS h2
        refine ⟨inr_of hO hg11, ?_⟩
        cases h2
        try dsimp only at h1
        rcases condS h1 with ⟨hc12, h1⟩ | ⟨hc12, h1⟩
        · rw [hc12]
          cbv
          obtain ⟨hg13, h1⟩ := grdS h1
          refine ⟨inr_of hO hg13, ?_⟩
          cases h1
          try dsimp only at h0
          cases h0
          exact fin_ok hX rfl ⟨[], _, _, ⟨rfl, rfl⟩, rfl, rfl, rfl, rfl, by cbv; try simp⟩
        · rw [hc12]
          cbv
          cases h1
          try dsimp only at h0
          cases h0
          exact fin_ok hX rfl ⟨[], _, _, ⟨rfl, rfl⟩, rfl, rfl, rfl, rfl, by cbv; try simp⟩
      · rw [hc10]
        cbv
        cases h2
        try dsimp only at h1
        replace h1 := condF h1 rfl
        cases h1
        try dsimp only at h0
        cases h0
        exact fin_ok hX rfl ⟨[], _, _, ⟨rfl, rfl⟩, rfl, rfl, rfl, rfl, by cbv; try simp⟩
    · rw [hc9]
      cbv
      cases h2
      try dsimp only at h1
      replace h1 := condF h1 rfl
      cases h1
      try dsimp only at h0
      cases h0
      exact fin_ok hX rfl ⟨[], _, _, ⟨rfl, rfl⟩, rfl, rfl, rfl, rfl, by cbv; try simp⟩
set_option maxHeartbeats 40000000 in
theorem fn_law29_RecurrenceIndices {O0 : Ops} (hO0 : O0 = std) {n_1 : Int} {of_1 : Int} {r1 : Bool} (h : m_law29_RecurrenceIndices O0 n_1 of_1 = some r1) :
    Fn Try.prog 8 [.c (.int .i64 n_1), .c (.int .i64 of_1)] [] (fun v c => v = .c (.bool r1) ∧ c = []) := by
  refine fn_run tab_holds eqs_holds mixed [] Try.func8 (by kernel_rfl) (by kernel_rfl) (Nat.le_of_ble_eq_true rfl) ?_
  intro O X hO hX
  rw [hO0, ← hO] at h
  unfold m_law29_RecurrenceIndices at h
  have h0 := h; clear h
  cbv
  obtain ⟨b37, hv, h0⟩ := bindS h0
  refine call_is hO hX (fn_law29_awake hO hv) (by kernel_rfl) [] rfl trivial rfl ?_
  cbv
  rcases condS h0 with ⟨hc1, h0⟩ | ⟨hc1, h0⟩
  · rw [hc1]
    cbv
    cases h0
    exact fin_ok hX rfl ⟨[], _, _, ⟨rfl, rfl⟩, rfl, rfl, rfl, rfl, by cbv; try simp⟩
  · as_aux_lemma =>
    rw [hc1]
    cbv
    obtain ⟨⟨n80, b38⟩, hv, h0⟩ := bindS h0
    try dsimp only at h0
    refine call_is hO hX (fn_recurrence_Position hO hv) (by kernel_rfl) [] rfl trivial rfl ?_
    cbv
    obtain ⟨x137, h1, h0⟩ := bindS h0
    rcases condS h1 with ⟨hc2, h1⟩ | ⟨hc2, h1⟩
    · as_aux_lemma =>
      rw [hc2]
      cbv
      cases h1
      try dsimp only at h0
      obtain ⟨e1, h1, h0⟩ := bindS h0
      rcases condS h1 with ⟨hc3, h1⟩ | ⟨hc3, h1⟩
      · rw [hc3]
        cbv
        obtain ⟨x139, h2, h1⟩ := bindS h1
        rcases condS h2 with ⟨hc4, h2⟩ | ⟨hc4, h2⟩
        · rw [hc4]
          cbv
          obtain ⟨hg5, h2⟩ := grdS h2
          refine ⟨inr_of hO hg5, ?_⟩
          cases h2
          try dsimp only at h1
          cases h1
          try dsimp only at h0
          cases h0
          exact fin_ok hX rfl ⟨[], _, _, ⟨rfl, rfl⟩, rfl, rfl, rfl, rfl, by cbv; try simp⟩
        · rw [hc4]
          cbv
          cases h2
          try dsimp only at h1
          cases h1
          try dsimp only at h0
          cases h0
          exact fin_ok hX rfl ⟨[], _, _, ⟨rfl, rfl⟩, rfl, rfl, rfl, rfl, by cbv; try simp⟩
      · as_aux_lemma =>
        rw [hc3]
        cbv
        obtain ⟨x142, h2, h1⟩ := bindS h1
        rcases condS h2 with ⟨hc6, h2⟩ | ⟨hc6, h2⟩
        · as_aux_lemma =>
          rw [hc6]
          cbv
          rcases condS h2 with ⟨hc7, h2⟩ | ⟨hc7, h2⟩
          · as_aux_lemma =>
            rw [hc7]
            cbv
            obtain ⟨hg8, h2⟩ := grdS h2
            refine ⟨inr_of hO hg8, ?_⟩
            cases h2
            try dsimp only at h1
            rcases condS h1 with ⟨hc9, h1⟩ | ⟨hc9, h1⟩
            · rw [hc9]
              cbv
              obtain ⟨x144, h2, h1⟩ := bindS h1
              rcases condS h2 with ⟨hc10, h2⟩ | ⟨hc10, h2⟩
              · rw [hc10]
                cbv
                obtain ⟨hg11, h2⟩ := grdS h2
                refine ⟨inr_of hO hg11, ?_⟩
                cases h2
                try dsimp only at h1
                cases h1
                try dsimp only at h0
                cases h0
                exact fin_ok hX rfl ⟨[], _, _, ⟨rfl, rfl⟩, rfl, rfl, rfl, rfl, by cbv; try simp⟩
              · rw [hc10]
                cbv
                cases h2
                try dsimp only at h1
                cases h1
                try dsimp only at h0
                cases h0
                exact fin_ok hX rfl ⟨[], _, _, ⟨rfl, rfl⟩, rfl, rfl, rfl, rfl, by cbv; try simp⟩
            · rw [hc9]
              cbv
              cases h1
              try dsimp only at h0
              obtain ⟨x148, h1, h0⟩ := bindS h0
              rcases condS h1 with ⟨hc12, h1⟩ | ⟨hc12, h1⟩
              · rw [hc12]
                cbv
                cases h1
                try dsimp only at h0
                cases h0
                exact fin_ok hX rfl ⟨[], _, _, ⟨rfl, rfl⟩, rfl, rfl, rfl, rfl, by cbv; try simp⟩
              · rw [hc12]
                cbv
                cases h1
                try dsimp only at h0
                cases h0
                exact fin_ok hX rfl ⟨[], _, _, ⟨rfl, rfl⟩, rfl, rfl, rfl, rfl, by cbv; try simp⟩
          · rw [hc7]
            cbv
            cases h2
            try dsimp only at h1
            replace h1 := condF h1 rfl
            cases h1
            try dsimp only at h0
            obtain ⟨x148, h1, h0⟩ := bindS h0
            rcases condS h1 with ⟨hc13, h1⟩ | ⟨hc13, h1⟩
            · rw [hc13]
              cbv
              cases h1
              try dsimp only at h0
              cases h0
              exact fin_ok hX rfl ⟨[], _, _, ⟨rfl, rfl⟩, rfl, rfl, rfl, rfl, by cbv; try simp⟩
            · rw [hc13]
              cbv
              cases h1
              try dsimp only at h0
              cases h0
              exact fin_ok hX rfl ⟨[], _, _, ⟨rfl, rfl⟩, rfl, rfl, rfl, rfl, by cbv; try simp⟩
        · rw [hc6]
          cbv
          cases h2
          try dsimp only at h1
          replace h1 := condF h1 rfl
          cases h1
          try dsimp only at h0
          obtain ⟨x148, h1, h0⟩ := bindS h0
          rcases condS h1 with ⟨hc14, h1⟩ | ⟨hc14, h1⟩
          · rw [hc14]
            cbv
            cases h1
            try dsimp only at h0
            cases h0
            exact fin_ok hX rfl ⟨[], _, _, ⟨rfl, rfl⟩, rfl, rfl, rfl, rfl, by cbv; try simp⟩
          · rw [hc14]
            cbv
            cases h1
            try dsimp only at h0
            cases h0
            exact fin_ok hX rfl ⟨[], _, _, ⟨rfl, rfl⟩, rfl, rfl, rfl, rfl, by cbv; try simp⟩
    · as_aux_lemma =>
      rw [hc2]
      cbv
      cases h1
      try dsimp only at h0
      obtain ⟨e1, h1, h0⟩ := bindS h0
      replace h1 := condF h1 rfl
      obtain ⟨x142, h2, h1⟩ := bindS h1
      rcases condS h2 with ⟨hc15, h2⟩ | ⟨hc15, h2⟩
      · as_aux_lemma =>
        rw [hc15]
        cbv
        rcases condS h2 with ⟨hc16, h2⟩ | ⟨hc16, h2⟩
        · as_aux_lemma =>
          rw [hc16]
          cbv
          obtain ⟨hg17, h2⟩ := grdS h2
          refine ⟨inr_of hO hg17, ?_⟩
          cases h2
          try dsimp only at h1
          rcases condS h1 with ⟨hc18, h1⟩ | ⟨hc18, h1⟩
          · rw [hc18]
            cbv
            obtain ⟨x144, h2, h1⟩ := bindS h1
            rcases condS h2 with ⟨hc19, h2⟩ | ⟨hc19, h2⟩
            · rw [hc19]
              cbv
              obtain ⟨hg20, h2⟩ := grdS h2
              refine ⟨inr_of hO hg20, ?_⟩
              cases h2
              try dsimp only at h1
              cases h1
              try dsimp only at h0
              cases h0
              exact fin_ok hX rfl ⟨[], _, _, ⟨rfl, rfl⟩, rfl, rfl, rfl, rfl, by cbv; try simp⟩
            · rw [hc19]
              cbv
              cases h2
              try dsimp only at h1
              cases h1
              try dsimp only at h0
              cases h0
              exact fin_ok hX rfl ⟨[], _, _, ⟨rfl, rfl⟩, rfl, rfl, rfl, rfl, by cbv; try simp⟩
          · rw [hc18]
            cbv
            cases h1
            try dsimp only at h0
            obtain ⟨x148, h1, h0⟩ := bindS h0
            rcases condS h1 with ⟨hc21, h1⟩ | ⟨hc21, h1⟩
            · rw [hc21]
              cbv
              cases h1
              try dsimp only at h0
              cases h0
              exact fin_ok hX rfl ⟨[], _, _, ⟨rfl, rfl⟩, rfl, rfl, rfl, rfl, by cbv; try simp⟩
            · rw [hc21]
              cbv
              cases h1
              try dsimp only at h0
              cases h0
              exact fin_ok hX rfl ⟨[], _, _, ⟨rfl, rfl⟩, rfl, rfl, rfl, rfl, by cbv; try simp⟩
        · rw [hc16]
          cbv
          cases h2
          try dsimp only at h1
          replace h1 := condF h1 rfl
          cases h1
          try dsimp only at h0
          obtain ⟨x148, h1, h0⟩ := bindS h0
          rcases condS h1 with ⟨hc22, h1⟩ | ⟨hc22, h1⟩
          · rw [hc22]
            cbv
            cases h1
            try dsimp only at h0
            cases h0
            exact fin_ok hX rfl ⟨[], _, _, ⟨rfl, rfl⟩, rfl, rfl, rfl, rfl, by cbv; try simp⟩
          · rw [hc22]
            cbv
            cases h1
            try dsimp only at h0
            cases h0
            exact fin_ok hX rfl ⟨[], _, _, ⟨rfl, rfl⟩, rfl, rfl, rfl, rfl, by cbv; try simp⟩
      · rw [hc15]
        cbv
        cases h2
        try dsimp only at h1
        replace h1 := condF h1 rfl
        cases h1
        try dsimp only at h0
        obtain ⟨x148, h1, h0⟩ := bindS h0
        rcases condS h1 with ⟨hc23, h1⟩ | ⟨hc23, h1⟩
        · rw [hc23]
          cbv
          cases h1
          try dsimp only at h0
          cases h0
          exact fin_ok hX rfl ⟨[], _, _, ⟨rfl, rfl⟩, rfl, rfl, rfl, rfl, by cbv; try simp⟩
        · rw [hc23]
          cbv
          cases h1
          try dsimp only at h0
          cases h0
          exact fin_ok hX rfl ⟨[], _, _, ⟨rfl, rfl⟩, rfl, rfl, rfl, rfl, by cbv; try simp⟩
end Go.Proofs.Ytmnhfaaaaejpaaa
