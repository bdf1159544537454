/-
  The code does what its models say (printed by lift.py).
  The code does what its models say (printed by lift.py).
-/
import Derived.Test.YtmnhfaaaaejpaaaGreatYM
import Derived.Test.YtmnhfaaaaejpaaaGreatManWL
import Derived.Test.YtmnhfaaaaejpaaaGreatYW0
namespace Go.Proofs.YtmnhfaaaaejpaaaGreat
open Go.RowKit
set_option maxRecDepth 100000

set_option maxHeartbeats 40000000 in
theorem fn_recurrence_Valid {O0 : Ops} (hO0 : O0 = std) {r_1 : Int} {r_2 : Int} {r_3 : Int} {r_4 : Int} {r_5 : Int} {r_6 : List Int} {r_7 : List Int} {r_8 : List Int} {r_9 : List Int} {r_10 : List (Int × Int)} {r_11 : List Int} {r_12 : List Int} {r_13 : List Int} {r_14 : List Int} {r1 : Bool} (h : m_recurrence_Valid O0 r_1 r_2 r_3 r_4 r_5 r_6 r_7 r_8 r_9 r_10 r_11 r_12 r_13 r_14 = some r1) :
    Fn Tryz.prog 8 [.agg [.int .i64 r_1, .int .i64 r_2, .int .i64 r_3, .int .i64 r_4, .sl 0, .sl 1, .sl 2, .sl 3, .sl 4, .sl 5, .sl 6, .sl 7, .sl 8, .int .i64 r_5]] [.arr false .i1 r_6, .arr false .i1 r_7, .arr false .i1 r_8, .arr false .i1 r_9, .arr false .i2 r_10, .arr false .i1 r_11, .arr false .i1 r_12, .arr false .i1 r_13, .arr false .i1 r_14] (fun v c => v = .c (.bool r1) ∧ c = []) := by
  refine fn_run tab_holds eqs_holds mixed [] Tryz.func8 (by kernel_rfl) (by kernel_rfl) (Nat.le_of_ble_eq_true rfl) ?_
  intro O X hO hX
  rw [hO0, ← hO] at h
  unfold m_recurrence_Valid at h
  have h0 := h; clear h
  cbv
  obtain ⟨x2, h1, h0⟩ := bindS h0
  rcases condS h1 with ⟨hc1, h1⟩ | ⟨hc1, h1⟩
  · rw [hc1]
    cbv
    cases h1
    try dsimp only at h0
    obtain ⟨x10, h1, h0⟩ := bindS h0
    replace h1 := condT h1 rfl
    cases h1
    try dsimp only at h0
    obtain ⟨e1, h1, h0⟩ := bindS h0
    replace h1 := condT h1 rfl
    cases h1
    try dsimp only at h0
    cases h0
    exact fin_ok hX rfl ⟨[], _, _, ⟨rfl, rfl⟩, rfl, rfl, rfl, rfl, by cbv; try simp⟩
  · as_aux_lemma =>
    rw [hc1]
    cbv
    cases h1
    try dsimp only at h0
    obtain ⟨x10, h1, h0⟩ := bindS h0
    rcases condS h1 with ⟨hc2, h1⟩ | ⟨hc2, h1⟩
    · rw [hc2]
      cbv
      cases h1
      try dsimp only at h0
      obtain ⟨e1, h1, h0⟩ := bindS h0
      replace h1 := condT h1 rfl
      cases h1
      try dsimp only at h0
      cases h0
      exact fin_ok hX rfl ⟨[], _, _, ⟨rfl, rfl⟩, rfl, rfl, rfl, rfl, by cbv; try simp⟩
    · as_aux_lemma =>
      rw [hc2]
      cbv
      obtain ⟨x4, h2, h1⟩ := bindS h1
      rcases condS h2 with ⟨hc3, h2⟩ | ⟨hc3, h2⟩
      · rw [hc3]
        cbv
        cases h2
        try dsimp only at h1
        obtain ⟨x8, h2, h1⟩ := bindS h1
        replace h2 := condT h2 rfl
        cases h2
        try dsimp only at h1
        cases h1
        try dsimp only at h0
        obtain ⟨e1, h1, h0⟩ := bindS h0
        replace h1 := condT h1 rfl
        cases h1
        try dsimp only at h0
        cases h0
        exact fin_ok hX rfl ⟨[], _, _, ⟨rfl, rfl⟩, rfl, rfl, rfl, rfl, by cbv; try simp⟩
      · as_aux_lemma =>
        rw [hc3]
        cbv
        cases h2
        try dsimp only at h1
        obtain ⟨x8, h2, h1⟩ := bindS h1
        rcases condS h2 with ⟨hc4, h2⟩ | ⟨hc4, h2⟩
        · rw [hc4]
          cbv
          cases h2
          try dsimp only at h1
          cases h1
          try dsimp only at h0
          obtain ⟨e1, h1, h0⟩ := bindS h0
          replace h1 := condT h1 rfl
          cases h1
          try dsimp only at h0
          cases h0
          exact fin_ok hX rfl ⟨[], _, _, ⟨rfl, rfl⟩, rfl, rfl, rfl, rfl, by cbv; try simp⟩
        · as_aux_lemma =>
          rw [hc4]
          cbv
          obtain ⟨x6, h3, h2⟩ := bindS h2
          rcases condS h3 with ⟨hc5, h3⟩ | ⟨hc5, h3⟩
          · rw [hc5]
            cbv
            cases h3
            try dsimp only at h2
            cases h2
            try dsimp only at h1
            cases h1
            try dsimp only at h0
            obtain ⟨e1, h1, h0⟩ := bindS h0
            replace h1 := condT h1 rfl
            cases h1
            try dsimp only at h0
            cases h0
            exact fin_ok hX rfl ⟨[], _, _, ⟨rfl, rfl⟩, rfl, rfl, rfl, rfl, by cbv; try simp⟩
          · as_aux_lemma =>
            rw [hc5]
            cbv
            cases h3
            try dsimp only at h2
            cases h2
            try dsimp only at h1
            cases h1
            try dsimp only at h0
            obtain ⟨e1, h1, h0⟩ := bindS h0
            rcases condS h1 with ⟨hc6, h1⟩ | ⟨hc6, h1⟩
            · rw [hc6]
              cbv
              cases h1
              try dsimp only at h0
              cases h0
              exact fin_ok hX rfl ⟨[], _, _, ⟨rfl, rfl⟩, rfl, rfl, rfl, rfl, by cbv; try simp⟩
            · as_aux_lemma =>
              rw [hc6]
              cbv
              obtain ⟨x12, h2, h1⟩ := bindS h1
              rcases condS h2 with ⟨hc7, h2⟩ | ⟨hc7, h2⟩
              · rw [hc7]
                cbv
                cases h2
                try dsimp only at h1
                obtain ⟨x19, h2, h1⟩ := bindS h1
                replace h2 := condT h2 rfl
                cases h2
                try dsimp only at h1
                obtain ⟨e2, h2, h1⟩ := bindS h1
                replace h2 := condT h2 rfl
                cases h2
                try dsimp only at h1
                cases h1
                try dsimp only at h0
                cases h0
                exact fin_ok hX rfl ⟨[], _, _, ⟨rfl, rfl⟩, rfl, rfl, rfl, rfl, by cbv; try simp⟩
              · as_aux_lemma =>
                rw [hc7]
                cbv
                cases h2
                try dsimp only at h1
                obtain ⟨x19, h2, h1⟩ := bindS h1
                rcases condS h2 with ⟨hc8, h2⟩ | ⟨hc8, h2⟩
                · rw [hc8]
                  cbv
                  cases h2
                  try dsimp only at h1
                  obtain ⟨e2, h2, h1⟩ := bindS h1
                  replace h2 := condT h2 rfl
                  cases h2
                  try dsimp only at h1
                  cases h1
                  try dsimp only at h0
                  cases h0
                  exact fin_ok hX rfl ⟨[], _, _, ⟨rfl, rfl⟩, rfl, rfl, rfl, rfl, by cbv; try simp⟩
                · as_aux_lemma =>
                  rw [hc8]
                  cbv
                  obtain ⟨x17, h3, h2⟩ := bindS h2
                  rcases condS h3 with ⟨hc9, h3⟩ | ⟨hc9, h3⟩
                  · as_aux_lemma =>
                    rw [hc9]
                    cbv
                    obtain ⟨b1, hv, h3⟩ := bindS h3
                    refine call_is hO hX (fn_recurrence_local hO hv) (by kernel_rfl) [] rfl trivial rfl ?_
                    cbv
                    rcases condS h3 with ⟨hc10, h3⟩ | ⟨hc10, h3⟩
                    · rw [hc10]
                      cbv
                      cases h3
                      try dsimp only at h2
                      cases h2
                      try dsimp only at h1
                      obtain ⟨e2, h2, h1⟩ := bindS h1
                      replace h2 := condT h2 rfl
                      cases h2
                      try dsimp only at h1
                      cases h1
                      try dsimp only at h0
                      cases h0
                      exact fin_ok hX rfl ⟨[], _, _, ⟨rfl, rfl⟩, rfl, rfl, rfl, rfl, by cbv; try simp⟩
                    · as_aux_lemma =>
                      rw [hc10]
                      cbv
                      cases h3
                      try dsimp only at h2
                      cases h2
                      try dsimp only at h1
                      obtain ⟨e2, h2, h1⟩ := bindS h1
                      rcases condS h2 with ⟨hc11, h2⟩ | ⟨hc11, h2⟩
                      · rw [hc11]
                        cbv
                        cases h2
                        try dsimp only at h1
                        cases h1
                        try dsimp only at h0
                        cases h0
                        exact fin_ok hX rfl ⟨[], _, _, ⟨rfl, rfl⟩, rfl, rfl, rfl, rfl, by cbv; try simp⟩
                      · as_aux_lemma =>
                        rw [hc11]
                        cbv
                        obtain ⟨x38, h3, h2⟩ := bindS h2
                        obtain ⟨b4, hv, h3⟩ := bindS h3
                        refine call_is hO hX (fn_recurrence_between hO hv) (by kernel_rfl) [0] rfl ⟨rfl, rfl, trivial⟩ rfl ?_
                        cbv
                        rcases condS h3 with ⟨hc12, h3⟩ | ⟨hc12, h3⟩
                        · rw [hc12]
                          cbv
                          cases h3
                          try dsimp only at h2
                          obtain ⟨e3, h3, h2⟩ := bindS h2
                          replace h3 := condT h3 rfl
                          cases h3
                          try dsimp only at h2
                          cases h2
                          try dsimp only at h1
                          cases h1
                          try dsimp only at h0
                          cases h0
                          exact fin_ok hX rfl ⟨[], _, _, ⟨rfl, rfl⟩, rfl, rfl, rfl, rfl, by cbv; try simp⟩
                        · as_aux_lemma =>
                          rw [hc12]
                          cbv
                          obtain ⟨b5, hv, h3⟩ := bindS h3
                          refine call_is hO hX (fn_recurrence_between hO hv) (by kernel_rfl) [1] rfl ⟨rfl, rfl, trivial⟩ rfl ?_
                          cbv
                          rcases condS h3 with ⟨hc13, h3⟩ | ⟨hc13, h3⟩
                          · rw [hc13]
                            cbv
                            cases h3
                            try dsimp only at h2
                            obtain ⟨e3, h3, h2⟩ := bindS h2
                            replace h3 := condT h3 rfl
                            cases h3
                            try dsimp only at h2
                            cases h2
                            try dsimp only at h1
                            cases h1
                            try dsimp only at h0
                            cases h0
                            exact fin_ok hX rfl ⟨[], _, _, ⟨rfl, rfl⟩, rfl, rfl, rfl, rfl, by cbv; try simp⟩
                          · as_aux_lemma =>
                            rw [hc13]
                            cbv
                            obtain ⟨b6, hv, h3⟩ := bindS h3
                            refine call_is hO hX (fn_recurrence_between hO hv) (by kernel_rfl) [2] rfl ⟨rfl, rfl, trivial⟩ rfl ?_
                            cbv
                            rcases condS h3 with ⟨hc14, h3⟩ | ⟨hc14, h3⟩
                            · rw [hc14]
                              cbv
                              cases h3
                              try dsimp only at h2
                              obtain ⟨e3, h3, h2⟩ := bindS h2
                              replace h3 := condT h3 rfl
                              cases h3
                              try dsimp only at h2
                              cases h2
                              try dsimp only at h1
                              cases h1
                              try dsimp only at h0
                              cases h0
                              exact fin_ok hX rfl ⟨[], _, _, ⟨rfl, rfl⟩, rfl, rfl, rfl, rfl, by cbv; try simp⟩
                            · as_aux_lemma =>
                              rw [hc14]
                              cbv
                              obtain ⟨b7, hv, h3⟩ := bindS h3
                              refine call_is hO hX (fn_recurrence_between hO hv) (by kernel_rfl) [3] rfl ⟨rfl, rfl, trivial⟩ rfl ?_
                              cbv
                              cases h3
                              try dsimp only at h2
                              obtain ⟨e3, h3, h2⟩ := bindS h2
                              rcases condS h3 with ⟨hc15, h3⟩ | ⟨hc15, h3⟩
                              · rw [hc15]
                                cbv
                                cases h3
                                try dsimp only at h2
                                cases h2
                                try dsimp only at h1
                                cases h1
                                try dsimp only at h0
                                cases h0
                                exact fin_ok hX rfl ⟨[], _, _, ⟨rfl, rfl⟩, rfl, rfl, rfl, rfl, by cbv; try simp⟩
                              · rw [hc15]
                                cbv
                                obtain ⟨x40, h4, h3⟩ := bindS h3
                                obtain ⟨b8, hv, h4⟩ := bindS h4
                                refine call_is hO hX (fn_recurrence_between hO hv) (by kernel_rfl) [5] rfl ⟨rfl, rfl, trivial⟩ rfl ?_
                                cbv
                                rcases condS h4 with ⟨hc16, h4⟩ | ⟨hc16, h4⟩
                                · rw [hc16]
                                  cbv
                                  cases h4
                                  try dsimp only at h3
                                  obtain ⟨e4, h4, h3⟩ := bindS h3
                                  replace h4 := condT h4 rfl
                                  cases h4
                                  try dsimp only at h3
                                  cases h3
                                  try dsimp only at h2
                                  cases h2
                                  try dsimp only at h1
                                  cases h1
                                  try dsimp only at h0
                                  cases h0
                                  exact fin_ok hX rfl ⟨[], _, _, ⟨rfl, rfl⟩, rfl, rfl, rfl, rfl, by cbv; try simp⟩
                                · rw [hc16]
                                  cbv
                                  obtain ⟨b9, hv, h4⟩ := bindS h4
                                  refine call_is hO hX (fn_recurrence_between hO hv) (by kernel_rfl) [6] rfl ⟨rfl, rfl, trivial⟩ rfl ?_
                                  cbv
                                  rcases condS h4 with ⟨hc17, h4⟩ | ⟨hc17, h4⟩
                                  · rw [hc17]
                                    cbv
                                    cases h4
                                    try dsimp only at h3
                                    obtain ⟨e4, h4, h3⟩ := bindS h3
                                    replace h4 := condT h4 rfl
                                    cases h4
                                    try dsimp only at h3
                                    cases h3
                                    try dsimp only at h2
                                    cases h2
                                    try dsimp only at h1
                                    cases h1
                                    try dsimp only at h0
                                    cases h0
                                    exact fin_ok hX rfl ⟨[], _, _, ⟨rfl, rfl⟩, rfl, rfl, rfl, rfl, by cbv; try simp⟩
                                  · rw [hc17]
                                    cbv
                                    obtain ⟨b10, hv, h4⟩ := bindS h4
                                    refine call_is hO hX (fn_recurrence_between hO hv) (by kernel_rfl) [7] rfl ⟨rfl, rfl, trivial⟩ rfl ?_
                                    cbv
                                    rcases condS h4 with ⟨hc18, h4⟩ | ⟨hc18, h4⟩
                                    · rw [hc18]
                                      cbv
                                      cases h4
                                      try dsimp only at h3
                                      obtain ⟨e4, h4, h3⟩ := bindS h3
                                      replace h4 := condT h4 rfl
                                      cases h4
                                      try dsimp only at h3
                                      cases h3
                                      try dsimp only at h2
                                      cases h2
                                      try dsimp only at h1
                                      cases h1
                                      try dsimp only at h0
                                      cases h0
                                      exact fin_ok hX rfl ⟨[], _, _, ⟨rfl, rfl⟩, rfl, rfl, rfl, rfl, by cbv; try simp⟩
                                    · rw [hc18]
                                      cbv
                                      obtain ⟨b11, hv, h4⟩ := bindS h4
                                      refine call_is hO hX (fn_recurrence_between hO hv) (by kernel_rfl) [8] rfl ⟨rfl, rfl, trivial⟩ rfl ?_
                                      cbv
                                      cases h4
                                      try dsimp only at h3
                                      obtain ⟨e4, h4, h3⟩ := bindS h3
                                      rcases condS h4 with ⟨hc19, h4⟩ | ⟨hc19, h4⟩
                                      · rw [hc19]
                                        cbv
                                        cases h4
                                        try dsimp only at h3
                                        cases h3
                                        try dsimp only at h2
                                        cases h2
                                        try dsimp only at h1
                                        cases h1
                                        try dsimp only at h0
                                        cases h0
                                        exact fin_ok hX rfl ⟨[], _, _, ⟨rfl, rfl⟩, rfl, rfl, rfl, rfl, by cbv; try simp⟩
                                      · rw [hc19]
                                        cbv
                                        obtain ⟨x42, h5, h4⟩ := bindS h4
                                        rcases condS h5 with ⟨hc20, h5⟩ | ⟨hc20, h5⟩
                                        · rw [hc20]
                                          cbv
                                          cases h5
                                          try dsimp only at h4
                                          obtain ⟨x44, h5, h4⟩ := bindS h4
                                          rcases condS h5 with ⟨hc21, h5⟩ | ⟨hc21, h5⟩
                                          · rw [hc21]
                                            cbv
                                            cases h5
                                            try dsimp only at h4
                                            replace h4 := condT h4 rfl
                                            cases h4
                                            try dsimp only at h3
                                            cases h3
                                            try dsimp only at h2
                                            cases h2
                                            try dsimp only at h1
                                            cases h1
                                            try dsimp only at h0
                                            cases h0
                                            exact fin_ok hX rfl ⟨[], _, _, ⟨rfl, rfl⟩, rfl, rfl, rfl, rfl, by cbv; try simp⟩
                                          · rw [hc21]
                                            cbv
                                            cases h5
                                            try dsimp only at h4
                                            rcases condS h4 with ⟨hc22, h4⟩ | ⟨hc22, h4⟩
                                            · rw [hc22]
                                              cbv
                                              cases h4
                                              try dsimp only at h3
                                              cases h3
                                              try dsimp only at h2
                                              cases h2
                                              try dsimp only at h1
                                              cases h1
                                              try dsimp only at h0
                                              cases h0
                                              exact fin_ok hX rfl ⟨[], _, _, ⟨rfl, rfl⟩, rfl, rfl, rfl, rfl, by cbv; try simp⟩
                                            · rw [hc22]
                                              cbv
                                              cases h4
                                              try dsimp only at h3
                                              cases h3
                                              try dsimp only at h2
                                              cases h2
                                              try dsimp only at h1
                                              cases h1
                                              try dsimp only at h0
                                              obtain ⟨e1, hi, h0⟩ := bindS h0
                                              obtain ⟨I1, hI1, hi⟩ := loopS hi
                                              refine loop1 tab_holds eqs_holds mixed [] hO hX I1 (fun y => [(6, .junk), (10, .junk), (14, .junk), (18, .junk), (22, .junk), (26, .junk), (31, .junk), (35, .junk), (39, .junk), (43, .junk), (48, .junk), (54, .junk), (59, .junk), (65, .junk), (71, .junk), (77, .junk), (82, .junk), (88, .junk), (94, .junk), (100, .junk), (105, .junk), (109, .junk), (113, .junk), (116, .c (.int .i64 y.2))]) (fun _ => []) (fun y => y.1) _ (by kernel_rfl) hi (by cbv; try simp) ?_
                                              refine allp ?_
                                              intro n1
                                              intro x45 hi
                                              cbv
                                              rw [hI1] at hi
                                              obtain ⟨n1, rfl, x1, h1, hi1⟩ := iterS hi
                                              unfold m_recurrence_Valid_L1 at h1
                                              try dsimp only at h1
                                              rcases condS h1 with ⟨hc23, h1⟩ | ⟨hc23, h1⟩
                                              · rw [hc23]
                                                cbv
                                                obtain ⟨hg24, h1⟩ := grdS h1
                                                refine ⟨idx_of hO hg24, ?_⟩
                                                obtain ⟨hg25, h1⟩ := grdS h1
                                                refine ⟨kin_of hO hg25, ?_⟩
                                                obtain ⟨x49, h2, h1⟩ := bindS h1
                                                rcases condS h2 with ⟨hc26, h2⟩ | ⟨hc26, h2⟩
                                                · rw [hc26]
                                                  cbv
                                                  cases h2
                                                  try dsimp only at h1
                                                  replace h1 := condT h1 rfl
                                                  cases h1
                                                  cases exitI hi1
                                                  try dsimp only at h0
                                                  cases h0
                                                  exact fin_ok hX rfl ⟨[], _, _, ⟨rfl, rfl⟩, rfl, rfl, rfl, rfl, by cbv; try simp⟩
                                                · rw [hc26]
                                                  cbv
                                                  rcases condS h2 with ⟨hc27, h2⟩ | ⟨hc27, h2⟩
                                                  · rw [hc27]
                                                    cbv
                                                    cases h2
                                                    try dsimp only at h1
                                                    replace h1 := condT h1 rfl
                                                    cases h1
                                                    cases exitI hi1
                                                    try dsimp only at h0
                                                    cases h0
                                                    exact fin_ok hX rfl ⟨[], _, _, ⟨rfl, rfl⟩, rfl, rfl, rfl, rfl, by cbv; try simp⟩
                                                  · rw [hc27]
                                                    cbv
                                                    rcases condS h2 with ⟨hc28, h2⟩ | ⟨hc28, h2⟩
                                                    · rw [hc28]
                                                      cbv
                                                      cases h2
                                                      try dsimp only at h1
                                                      replace h1 := condT h1 rfl
                                                      cases h1
                                                      cases exitI hi1
                                                      try dsimp only at h0
                                                      cases h0
                                                      exact fin_ok hX rfl ⟨[], _, _, ⟨rfl, rfl⟩, rfl, rfl, rfl, rfl, by cbv; try simp⟩
                                                    · rw [hc28]
                                                      cbv
                                                      rcases condS h2 with ⟨hc29, h2⟩ | ⟨hc29, h2⟩
                                                      · rw [hc29]
                                                        cbv
                                                        cases h2
                                                        try dsimp only at h1
                                                        replace h1 := condT h1 rfl
                                                        cases h1
                                                        cases exitI hi1
                                                        try dsimp only at h0
                                                        cases h0
                                                        exact fin_ok hX rfl ⟨[], _, _, ⟨rfl, rfl⟩, rfl, rfl, rfl, rfl, by cbv; try simp⟩
                                                      · rw [hc29]
                                                        cbv
                                                        rcases condS h2 with ⟨hc30, h2⟩ | ⟨hc30, h2⟩
                                                        · rw [hc30]
                                                          cbv
                                                          try (rw [hc21]; cbv)
                                                          replace h2 := condF h2 hc21
                                                          cases h2
                                                          try dsimp only at h1
                                                          replace h1 := condF h1 rfl
                                                          obtain ⟨hg31, h1⟩ := grdS h1
                                                          refine ⟨inr_of hO hg31, ?_⟩
                                                          cases h1
                                                          exact ⟨_, [0, 1, 2, 3, 4, 5, 6, 7, 8, 9], nextI hI1 hi1, by cbv; try simp, by first | exact Nat.lt_succ_self _ | omega⟩
                                                        · rw [hc30]
                                                          cbv
                                                          cases h2
                                                          try dsimp only at h1
                                                          replace h1 := condF h1 rfl
                                                          obtain ⟨hg32, h1⟩ := grdS h1
                                                          refine ⟨inr_of hO hg32, ?_⟩
                                                          cases h1
                                                          exact ⟨_, [0, 1, 2, 3, 4, 5, 6, 7, 8, 9], nextI hI1 hi1, by cbv; try simp, by first | exact Nat.lt_succ_self _ | omega⟩
                                              · rw [hc23]
                                                cbv
                                                cases h1
                                                cases exitI hi1
                                                try dsimp only at h0
                                                obtain ⟨l26, hv, h0⟩ := bindS h0
                                                refine call_is hO hX (fn_recurrence_times hO hv) (by kernel_rfl) [0, 1, 2, 3, 4, 5, 6, 7, 8] rfl ⟨rfl, rfl, rfl, rfl, rfl, rfl, rfl, rfl, rfl, rfl, rfl, rfl, rfl, rfl, rfl, rfl, rfl, rfl, trivial⟩ rfl ?_
                                                cbv
                                                cases h0
                                                exact fin_ok hX rfl ⟨[], _, _, ⟨rfl, rfl⟩, rfl, rfl, rfl, rfl, by cbv; try simp⟩
                                        · rw [hc20]
                                          cbv
                                          cases h5
                                          try dsimp only at h4
                                          obtain ⟨x44, h5, h4⟩ := bindS h4
                                          replace h5 := condF h5 rfl
                                          cases h5
                                          try dsimp only at h4
                                          rcases condS h4 with ⟨hc33, h4⟩ | ⟨hc33, h4⟩
                                          · rw [hc33]
                                            cbv
                                            cases h4
                                            try dsimp only at h3
                                            cases h3
                                            try dsimp only at h2
                                            cases h2
                                            try dsimp only at h1
                                            cases h1
                                            try dsimp only at h0
                                            cases h0
                                            exact fin_ok hX rfl ⟨[], _, _, ⟨rfl, rfl⟩, rfl, rfl, rfl, rfl, by cbv; try simp⟩
                                          · rw [hc33]
                                            cbv
                                            cases h4
                                            try dsimp only at h3
                                            cases h3
                                            try dsimp only at h2
                                            cases h2
                                            try dsimp only at h1
                                            cases h1
                                            try dsimp only at h0
                                            obtain ⟨e1, hi, h0⟩ := bindS h0
                                            obtain ⟨I1, hI1, hi⟩ := loopS hi
                                            refine loop1 tab_holds eqs_holds mixed [] hO hX I1 (fun y => [(6, .junk), (10, .junk), (14, .junk), (18, .junk), (22, .junk), (26, .junk), (31, .junk), (35, .junk), (39, .junk), (43, .junk), (48, .junk), (54, .junk), (59, .junk), (65, .junk), (71, .junk), (77, .junk), (82, .junk), (88, .junk), (94, .junk), (100, .junk), (109, .junk), (113, .junk), (116, .c (.int .i64 y.2))]) (fun _ => []) (fun y => y.1) _ (by kernel_rfl) hi (by cbv; try simp) ?_
                                            refine allp ?_
                                            intro n1
                                            intro x45 hi
                                            cbv
                                            rw [hI1] at hi
                                            obtain ⟨n1, rfl, x1, h1, hi1⟩ := iterS hi
                                            unfold m_recurrence_Valid_L1 at h1
                                            try dsimp only at h1
                                            rcases condS h1 with ⟨hc34, h1⟩ | ⟨hc34, h1⟩
                                            · rw [hc34]
                                              cbv
                                              obtain ⟨hg35, h1⟩ := grdS h1
                                              refine ⟨idx_of hO hg35, ?_⟩
                                              obtain ⟨hg36, h1⟩ := grdS h1
                                              refine ⟨kin_of hO hg36, ?_⟩
                                              obtain ⟨x49, h2, h1⟩ := bindS h1
                                              rcases condS h2 with ⟨hc37, h2⟩ | ⟨hc37, h2⟩
                                              · rw [hc37]
                                                cbv
                                                cases h2
                                                try dsimp only at h1
                                                replace h1 := condT h1 rfl
                                                cases h1
                                                cases exitI hi1
                                                try dsimp only at h0
                                                cases h0
                                                exact fin_ok hX rfl ⟨[], _, _, ⟨rfl, rfl⟩, rfl, rfl, rfl, rfl, by cbv; try simp⟩
                                              · rw [hc37]
                                                cbv
                                                rcases condS h2 with ⟨hc38, h2⟩ | ⟨hc38, h2⟩
                                                · rw [hc38]
                                                  cbv
                                                  cases h2
                                                  try dsimp only at h1
                                                  replace h1 := condT h1 rfl
                                                  cases h1
                                                  cases exitI hi1
                                                  try dsimp only at h0
                                                  cases h0
                                                  exact fin_ok hX rfl ⟨[], _, _, ⟨rfl, rfl⟩, rfl, rfl, rfl, rfl, by cbv; try simp⟩
                                                · rw [hc38]
                                                  cbv
                                                  rcases condS h2 with ⟨hc39, h2⟩ | ⟨hc39, h2⟩
                                                  · rw [hc39]
                                                    cbv
                                                    cases h2
                                                    try dsimp only at h1
                                                    replace h1 := condT h1 rfl
                                                    cases h1
                                                    cases exitI hi1
                                                    try dsimp only at h0
                                                    cases h0
                                                    exact fin_ok hX rfl ⟨[], _, _, ⟨rfl, rfl⟩, rfl, rfl, rfl, rfl, by cbv; try simp⟩
                                                  · rw [hc39]
                                                    cbv
                                                    rcases condS h2 with ⟨hc40, h2⟩ | ⟨hc40, h2⟩
                                                    · rw [hc40]
                                                      cbv
                                                      cases h2
                                                      try dsimp only at h1
                                                      replace h1 := condT h1 rfl
                                                      cases h1
                                                      cases exitI hi1
                                                      try dsimp only at h0
                                                      cases h0
                                                      exact fin_ok hX rfl ⟨[], _, _, ⟨rfl, rfl⟩, rfl, rfl, rfl, rfl, by cbv; try simp⟩
                                                    · rw [hc40]
                                                      cbv
                                                      rcases condS h2 with ⟨hc41, h2⟩ | ⟨hc41, h2⟩
                                                      · rw [hc41]
                                                        cbv
                                                        rcases condS h2 with ⟨hc42, h2⟩ | ⟨hc42, h2⟩
                                                        · rw [hc42]
                                                          cbv
                                                          cases h2
                                                          try dsimp only at h1
                                                          rcases condS h1 with ⟨hc43, h1⟩ | ⟨hc43, h1⟩
                                                          · rw [hc43]
                                                            cbv
                                                            cases h1
                                                            cases exitI hi1
                                                            try dsimp only at h0
                                                            cases h0
                                                            exact fin_ok hX rfl ⟨[], _, _, ⟨rfl, rfl⟩, rfl, rfl, rfl, rfl, by cbv; try simp⟩
                                                          · rw [hc43]
                                                            cbv
                                                            obtain ⟨hg44, h1⟩ := grdS h1
                                                            refine ⟨inr_of hO hg44, ?_⟩
                                                            cases h1
                                                            exact ⟨_, [0, 1, 2, 3, 4, 5, 6, 7, 8, 9], nextI hI1 hi1, by cbv; try simp, by first | exact Nat.lt_succ_self _ | omega⟩
                                                        · rw [hc42]
                                                          cbv
                                                          cases h2
                                                          try dsimp only at h1
                                                          replace h1 := condF h1 rfl
                                                          obtain ⟨hg45, h1⟩ := grdS h1
                                                          refine ⟨inr_of hO hg45, ?_⟩
                                                          cases h1
                                                          exact ⟨_, [0, 1, 2, 3, 4, 5, 6, 7, 8, 9], nextI hI1 hi1, by cbv; try simp, by first | exact Nat.lt_succ_self _ | omega⟩
                                                      · rw [hc41]
                                                        cbv
                                                        cases h2
                                                        try dsimp only at h1
                                                        replace h1 := condF h1 rfl
                                                        obtain ⟨hg46, h1⟩ := grdS h1
                                                        refine ⟨inr_of hO hg46, ?_⟩
                                                        cases h1
                                                        exact ⟨_, [0, 1, 2, 3, 4, 5, 6, 7, 8, 9], nextI hI1 hi1, by cbv; try simp, by first | exact Nat.lt_succ_self _ | omega⟩
                                            · rw [hc34]
                                              cbv
                                              cases h1
                                              cases exitI hi1
                                              try dsimp only at h0
                                              obtain ⟨l26, hv, h0⟩ := bindS h0
                                              refine call_is hO hX (fn_recurrence_times hO hv) (by kernel_rfl) [0, 1, 2, 3, 4, 5, 6, 7, 8] rfl ⟨rfl, rfl, rfl, rfl, rfl, rfl, rfl, rfl, rfl, rfl, rfl, rfl, rfl, rfl, rfl, rfl, rfl, rfl, trivial⟩ rfl ?_
                                              cbv
                                              cases h0
                                              exact fin_ok hX rfl ⟨[], _, _, ⟨rfl, rfl⟩, rfl, rfl, rfl, rfl, by cbv; try simp⟩
                  · as_aux_lemma =>
                    rw [hc9]
                    cbv
                    cases h3
                    try dsimp only at h2
                    cases h2
                    try dsimp only at h1
                    obtain ⟨e2, h2, h1⟩ := bindS h1
                    replace h2 := condF h2 rfl
                    obtain ⟨x38, h3, h2⟩ := bindS h2
                    obtain ⟨b4, hv, h3⟩ := bindS h3
                    refine call_is hO hX (fn_recurrence_between hO hv) (by kernel_rfl) [0] rfl ⟨rfl, rfl, trivial⟩ rfl ?_
                    cbv
                    rcases condS h3 with ⟨hc47, h3⟩ | ⟨hc47, h3⟩
                    · rw [hc47]
                      cbv
                      cases h3
                      try dsimp only at h2
                      obtain ⟨e3, h3, h2⟩ := bindS h2
                      replace h3 := condT h3 rfl
                      cases h3
                      try dsimp only at h2
                      cases h2
                      try dsimp only at h1
                      cases h1
                      try dsimp only at h0
                      cases h0
                      exact fin_ok hX rfl ⟨[], _, _, ⟨rfl, rfl⟩, rfl, rfl, rfl, rfl, by cbv; try simp⟩
                    · as_aux_lemma =>
                      rw [hc47]
                      cbv
                      obtain ⟨b5, hv, h3⟩ := bindS h3
                      refine call_is hO hX (fn_recurrence_between hO hv) (by kernel_rfl) [1] rfl ⟨rfl, rfl, trivial⟩ rfl ?_
                      cbv
                      rcases condS h3 with ⟨hc48, h3⟩ | ⟨hc48, h3⟩
                      · rw [hc48]
                        cbv
                        cases h3
                        try dsimp only at h2
                        obtain ⟨e3, h3, h2⟩ := bindS h2
                        replace h3 := condT h3 rfl
                        cases h3
                        try dsimp only at h2
                        cases h2
                        try dsimp only at h1
                        cases h1
                        try dsimp only at h0
                        cases h0
                        exact fin_ok hX rfl ⟨[], _, _, ⟨rfl, rfl⟩, rfl, rfl, rfl, rfl, by cbv; try simp⟩
                      · as_aux_lemma =>
                        rw [hc48]
                        cbv
                        obtain ⟨b6, hv, h3⟩ := bindS h3
                        refine call_is hO hX (fn_recurrence_between hO hv) (by kernel_rfl) [2] rfl ⟨rfl, rfl, trivial⟩ rfl ?_
                        cbv
                        rcases condS h3 with ⟨hc49, h3⟩ | ⟨hc49, h3⟩
                        · rw [hc49]
                          cbv
                          cases h3
                          try dsimp only at h2
                          obtain ⟨e3, h3, h2⟩ := bindS h2
                          replace h3 := condT h3 rfl
                          cases h3
                          try dsimp only at h2
                          cases h2
                          try dsimp only at h1
                          cases h1
                          try dsimp only at h0
                          cases h0
                          exact fin_ok hX rfl ⟨[], _, _, ⟨rfl, rfl⟩, rfl, rfl, rfl, rfl, by cbv; try simp⟩
                        · as_aux_lemma =>
                          rw [hc49]
                          cbv
                          obtain ⟨b7, hv, h3⟩ := bindS h3
                          refine call_is hO hX (fn_recurrence_between hO hv) (by kernel_rfl) [3] rfl ⟨rfl, rfl, trivial⟩ rfl ?_
                          cbv
                          cases h3
                          try dsimp only at h2
                          obtain ⟨e3, h3, h2⟩ := bindS h2
                          rcases condS h3 with ⟨hc50, h3⟩ | ⟨hc50, h3⟩
                          · rw [hc50]
                            cbv
                            cases h3
                            try dsimp only at h2
                            cases h2
                            try dsimp only at h1
                            cases h1
                            try dsimp only at h0
                            cases h0
                            exact fin_ok hX rfl ⟨[], _, _, ⟨rfl, rfl⟩, rfl, rfl, rfl, rfl, by cbv; try simp⟩
                          · rw [hc50]
                            cbv
                            obtain ⟨x40, h4, h3⟩ := bindS h3
                            obtain ⟨b8, hv, h4⟩ := bindS h4
                            refine call_is hO hX (fn_recurrence_between hO hv) (by kernel_rfl) [5] rfl ⟨rfl, rfl, trivial⟩ rfl ?_
                            cbv
                            rcases condS h4 with ⟨hc51, h4⟩ | ⟨hc51, h4⟩
                            · rw [hc51]
                              cbv
                              cases h4
                              try dsimp only at h3
                              obtain ⟨e4, h4, h3⟩ := bindS h3
                              replace h4 := condT h4 rfl
                              cases h4
                              try dsimp only at h3
                              cases h3
                              try dsimp only at h2
                              cases h2
                              try dsimp only at h1
                              cases h1
                              try dsimp only at h0
                              cases h0
                              exact fin_ok hX rfl ⟨[], _, _, ⟨rfl, rfl⟩, rfl, rfl, rfl, rfl, by cbv; try simp⟩
                            · rw [hc51]
                              cbv
                              obtain ⟨b9, hv, h4⟩ := bindS h4
                              refine call_is hO hX (fn_recurrence_between hO hv) (by kernel_rfl) [6] rfl ⟨rfl, rfl, trivial⟩ rfl ?_
                              cbv
                              rcases condS h4 with ⟨hc52, h4⟩ | ⟨hc52, h4⟩
                              · rw [hc52]
                                cbv
                                cases h4
                                try dsimp only at h3
                                obtain ⟨e4, h4, h3⟩ := bindS h3
                                replace h4 := condT h4 rfl
                                cases h4
                                try dsimp only at h3
                                cases h3
                                try dsimp only at h2
                                cases h2
                                try dsimp only at h1
                                cases h1
                                try dsimp only at h0
                                cases h0
                                exact fin_ok hX rfl ⟨[], _, _, ⟨rfl, rfl⟩, rfl, rfl, rfl, rfl, by cbv; try simp⟩
                              · rw [hc52]
                                cbv
                                obtain ⟨b10, hv, h4⟩ := bindS h4
                                refine call_is hO hX (fn_recurrence_between hO hv) (by kernel_rfl) [7] rfl ⟨rfl, rfl, trivial⟩ rfl ?_
                                cbv
                                rcases condS h4 with ⟨hc53, h4⟩ | ⟨hc53, h4⟩
                                · rw [hc53]
                                  cbv
                                  cases h4
                                  try dsimp only at h3
                                  obtain ⟨e4, h4, h3⟩ := bindS h3
                                  replace h4 := condT h4 rfl
                                  cases h4
                                  try dsimp only at h3
                                  cases h3
                                  try dsimp only at h2
                                  cases h2
                                  try dsimp only at h1
                                  cases h1
                                  try dsimp only at h0
                                  cases h0
                                  exact fin_ok hX rfl ⟨[], _, _, ⟨rfl, rfl⟩, rfl, rfl, rfl, rfl, by cbv; try simp⟩
                                · rw [hc53]
                                  cbv
                                  obtain ⟨b11, hv, h4⟩ := bindS h4
                                  refine call_is hO hX (fn_recurrence_between hO hv) (by kernel_rfl) [8] rfl ⟨rfl, rfl, trivial⟩ rfl ?_
                                  cbv
                                  cases h4
                                  try dsimp only at h3
                                  obtain ⟨e4, h4, h3⟩ := bindS h3
                                  rcases condS h4 with ⟨hc54, h4⟩ | ⟨hc54, h4⟩
                                  · rw [hc54]
                                    cbv
                                    cases h4
                                    try dsimp only at h3
                                    cases h3
                                    try dsimp only at h2
                                    cases h2
                                    try dsimp only at h1
                                    cases h1
                                    try dsimp only at h0
                                    cases h0
                                    exact fin_ok hX rfl ⟨[], _, _, ⟨rfl, rfl⟩, rfl, rfl, rfl, rfl, by cbv; try simp⟩
                                  · rw [hc54]
                                    cbv
                                    obtain ⟨x42, h5, h4⟩ := bindS h4
                                    rcases condS h5 with ⟨hc55, h5⟩ | ⟨hc55, h5⟩
                                    · rw [hc55]
                                      cbv
                                      cases h5
                                      try dsimp only at h4
                                      obtain ⟨x44, h5, h4⟩ := bindS h4
                                      rcases condS h5 with ⟨hc56, h5⟩ | ⟨hc56, h5⟩
                                      · rw [hc56]
                                        cbv
                                        cases h5
                                        try dsimp only at h4
                                        replace h4 := condT h4 rfl
                                        cases h4
                                        try dsimp only at h3
                                        cases h3
                                        try dsimp only at h2
                                        cases h2
                                        try dsimp only at h1
                                        cases h1
                                        try dsimp only at h0
                                        cases h0
                                        exact fin_ok hX rfl ⟨[], _, _, ⟨rfl, rfl⟩, rfl, rfl, rfl, rfl, by cbv; try simp⟩
                                      · rw [hc56]
                                        cbv
                                        cases h5
                                        try dsimp only at h4
                                        rcases condS h4 with ⟨hc57, h4⟩ | ⟨hc57, h4⟩
                                        · rw [hc57]
                                          cbv
                                          cases h4
                                          try dsimp only at h3
                                          cases h3
                                          try dsimp only at h2
                                          cases h2
                                          try dsimp only at h1
                                          cases h1
                                          try dsimp only at h0
                                          cases h0
                                          exact fin_ok hX rfl ⟨[], _, _, ⟨rfl, rfl⟩, rfl, rfl, rfl, rfl, by cbv; try simp⟩
                                        · rw [hc57]
                                          cbv
                                          cases h4
                                          try dsimp only at h3
                                          cases h3
                                          try dsimp only at h2
                                          cases h2
                                          try dsimp only at h1
                                          cases h1
                                          try dsimp only at h0
                                          obtain ⟨e1, hi, h0⟩ := bindS h0
                                          obtain ⟨I1, hI1, hi⟩ := loopS hi
                                          refine loop1 tab_holds eqs_holds mixed [] hO hX I1 (fun y => [(6, .junk), (10, .junk), (14, .junk), (18, .junk), (22, .junk), (26, .junk), (31, .junk), (35, .junk), (39, .junk), (54, .junk), (59, .junk), (65, .junk), (71, .junk), (77, .junk), (82, .junk), (88, .junk), (94, .junk), (100, .junk), (105, .junk), (109, .junk), (113, .junk), (116, .c (.int .i64 y.2))]) (fun _ => []) (fun y => y.1) _ (by kernel_rfl) hi (by cbv; try simp) ?_
                                          refine allp ?_
                                          intro n1
                                          intro x45 hi
                                          cbv
                                          rw [hI1] at hi
                                          obtain ⟨n1, rfl, x1, h1, hi1⟩ := iterS hi
                                          unfold m_recurrence_Valid_L1 at h1
                                          try dsimp only at h1
                                          rcases condS h1 with ⟨hc58, h1⟩ | ⟨hc58, h1⟩
                                          · rw [hc58]
                                            cbv
                                            obtain ⟨hg59, h1⟩ := grdS h1
                                            refine ⟨idx_of hO hg59, ?_⟩
                                            obtain ⟨hg60, h1⟩ := grdS h1
                                            refine ⟨kin_of hO hg60, ?_⟩
                                            obtain ⟨x49, h2, h1⟩ := bindS h1
                                            rcases condS h2 with ⟨hc61, h2⟩ | ⟨hc61, h2⟩
                                            · rw [hc61]
                                              cbv
                                              cases h2
                                              try dsimp only at h1
                                              replace h1 := condT h1 rfl
                                              cases h1
                                              cases exitI hi1
                                              try dsimp only at h0
                                              cases h0
                                              exact fin_ok hX rfl ⟨[], _, _, ⟨rfl, rfl⟩, rfl, rfl, rfl, rfl, by cbv; try simp⟩
                                            · rw [hc61]
                                              cbv
                                              rcases condS h2 with ⟨hc62, h2⟩ | ⟨hc62, h2⟩
                                              · rw [hc62]
                                                cbv
                                                cases h2
                                                try dsimp only at h1
                                                replace h1 := condT h1 rfl
                                                cases h1
                                                cases exitI hi1
                                                try dsimp only at h0
                                                cases h0
                                                exact fin_ok hX rfl ⟨[], _, _, ⟨rfl, rfl⟩, rfl, rfl, rfl, rfl, by cbv; try simp⟩
                                              · rw [hc62]
                                                cbv
                                                rcases condS h2 with ⟨hc63, h2⟩ | ⟨hc63, h2⟩
                                                · rw [hc63]
                                                  cbv
                                                  cases h2
                                                  try dsimp only at h1
                                                  replace h1 := condT h1 rfl
                                                  cases h1
                                                  cases exitI hi1
                                                  try dsimp only at h0
                                                  cases h0
                                                  exact fin_ok hX rfl ⟨[], _, _, ⟨rfl, rfl⟩, rfl, rfl, rfl, rfl, by cbv; try simp⟩
                                                · rw [hc63]
                                                  cbv
                                                  rcases condS h2 with ⟨hc64, h2⟩ | ⟨hc64, h2⟩
                                                  · rw [hc64]
                                                    cbv
                                                    cases h2
                                                    try dsimp only at h1
                                                    replace h1 := condT h1 rfl
                                                    cases h1
                                                    cases exitI hi1
                                                    try dsimp only at h0
                                                    cases h0
                                                    exact fin_ok hX rfl ⟨[], _, _, ⟨rfl, rfl⟩, rfl, rfl, rfl, rfl, by cbv; try simp⟩
                                                  · rw [hc64]
                                                    cbv
                                                    rcases condS h2 with ⟨hc65, h2⟩ | ⟨hc65, h2⟩
                                                    · rw [hc65]
                                                      cbv
                                                      try (rw [hc56]; cbv)
                                                      replace h2 := condF h2 hc56
                                                      cases h2
                                                      try dsimp only at h1
                                                      replace h1 := condF h1 rfl
                                                      obtain ⟨hg66, h1⟩ := grdS h1
                                                      refine ⟨inr_of hO hg66, ?_⟩
                                                      cases h1
                                                      exact ⟨_, [0, 1, 2, 3, 4, 5, 6, 7, 8, 9], nextI hI1 hi1, by cbv; try simp, by first | exact Nat.lt_succ_self _ | omega⟩
                                                    · rw [hc65]
                                                      cbv
                                                      cases h2
                                                      try dsimp only at h1
                                                      replace h1 := condF h1 rfl
                                                      obtain ⟨hg67, h1⟩ := grdS h1
                                                      refine ⟨inr_of hO hg67, ?_⟩
                                                      cases h1
                                                      exact ⟨_, [0, 1, 2, 3, 4, 5, 6, 7, 8, 9], nextI hI1 hi1, by cbv; try simp, by first | exact Nat.lt_succ_self _ | omega⟩
                                          · rw [hc58]
                                            cbv
                                            cases h1
                                            cases exitI hi1
                                            try dsimp only at h0
                                            obtain ⟨l26, hv, h0⟩ := bindS h0
                                            refine call_is hO hX (fn_recurrence_times hO hv) (by kernel_rfl) [0, 1, 2, 3, 4, 5, 6, 7, 8] rfl ⟨rfl, rfl, rfl, rfl, rfl, rfl, rfl, rfl, rfl, rfl, rfl, rfl, rfl, rfl, rfl, rfl, rfl, rfl, trivial⟩ rfl ?_
                                            cbv
                                            cases h0
                                            exact fin_ok hX rfl ⟨[], _, _, ⟨rfl, rfl⟩, rfl, rfl, rfl, rfl, by cbv; try simp⟩
                                    · rw [hc55]
                                      cbv
                                      cases h5
                                      try dsimp only at h4
                                      obtain ⟨x44, h5, h4⟩ := bindS h4
                                      replace h5 := condF h5 rfl
                                      cases h5
                                      try dsimp only at h4
                                      rcases condS h4 with ⟨hc68, h4⟩ | ⟨hc68, h4⟩
                                      · rw [hc68]
                                        cbv
                                        cases h4
                                        try dsimp only at h3
                                        cases h3
                                        try dsimp only at h2
                                        cases h2
                                        try dsimp only at h1
                                        cases h1
                                        try dsimp only at h0
                                        cases h0
                                        exact fin_ok hX rfl ⟨[], _, _, ⟨rfl, rfl⟩, rfl, rfl, rfl, rfl, by cbv; try simp⟩
                                      · rw [hc68]
                                        cbv
                                        cases h4
                                        try dsimp only at h3
                                        cases h3
                                        try dsimp only at h2
                                        cases h2
                                        try dsimp only at h1
                                        cases h1
                                        try dsimp only at h0
                                        obtain ⟨e1, hi, h0⟩ := bindS h0
                                        obtain ⟨I1, hI1, hi⟩ := loopS hi
                                        refine loop1 tab_holds eqs_holds mixed [] hO hX I1 (fun y => [(6, .junk), (10, .junk), (14, .junk), (18, .junk), (22, .junk), (26, .junk), (31, .junk), (35, .junk), (39, .junk), (54, .junk), (59, .junk), (65, .junk), (71, .junk), (77, .junk), (82, .junk), (88, .junk), (94, .junk), (100, .junk), (109, .junk), (113, .junk), (116, .c (.int .i64 y.2))]) (fun _ => []) (fun y => y.1) _ (by kernel_rfl) hi (by cbv; try simp) ?_
                                        refine allp ?_
                                        intro n1
                                        intro x45 hi
                                        cbv
                                        rw [hI1] at hi
                                        obtain ⟨n1, rfl, x1, h1, hi1⟩ := iterS hi
                                        unfold m_recurrence_Valid_L1 at h1
                                        try dsimp only at h1
                                        rcases condS h1 with ⟨hc69, h1⟩ | ⟨hc69, h1⟩
                                        · rw [hc69]
                                          cbv
                                          obtain ⟨hg70, h1⟩ := grdS h1
                                          refine ⟨idx_of hO hg70, ?_⟩
                                          obtain ⟨hg71, h1⟩ := grdS h1
                                          refine ⟨kin_of hO hg71, ?_⟩
                                          obtain ⟨x49, h2, h1⟩ := bindS h1
                                          rcases condS h2 with ⟨hc72, h2⟩ | ⟨hc72, h2⟩
                                          · rw [hc72]
                                            cbv
                                            cases h2
                                            try dsimp only at h1
                                            replace h1 := condT h1 rfl
                                            cases h1
                                            cases exitI hi1
                                            try dsimp only at h0
                                            cases h0
                                            exact fin_ok hX rfl ⟨[], _, _, ⟨rfl, rfl⟩, rfl, rfl, rfl, rfl, by cbv; try simp⟩
                                          · rw [hc72]
                                            cbv
                                            rcases condS h2 with ⟨hc73, h2⟩ | ⟨hc73, h2⟩
                                            · rw [hc73]
                                              cbv
                                              cases h2
                                              try dsimp only at h1
                                              replace h1 := condT h1 rfl
                                              cases h1
                                              cases exitI hi1
                                              try dsimp only at h0
                                              cases h0
                                              exact fin_ok hX rfl ⟨[], _, _, ⟨rfl, rfl⟩, rfl, rfl, rfl, rfl, by cbv; try simp⟩
                                            · rw [hc73]
                                              cbv
                                              rcases condS h2 with ⟨hc74, h2⟩ | ⟨hc74, h2⟩
                                              · rw [hc74]
                                                cbv
                                                cases h2
                                                try dsimp only at h1
                                                replace h1 := condT h1 rfl
                                                cases h1
                                                cases exitI hi1
                                                try dsimp only at h0
                                                cases h0
                                                exact fin_ok hX rfl ⟨[], _, _, ⟨rfl, rfl⟩, rfl, rfl, rfl, rfl, by cbv; try simp⟩
                                              · rw [hc74]
                                                cbv
                                                rcases condS h2 with ⟨hc75, h2⟩ | ⟨hc75, h2⟩
                                                · rw [hc75]
                                                  cbv
                                                  cases h2
                                                  try dsimp only at h1
                                                  replace h1 := condT h1 rfl
                                                  cases h1
                                                  cases exitI hi1
                                                  try dsimp only at h0
                                                  cases h0
                                                  exact fin_ok hX rfl ⟨[], _, _, ⟨rfl, rfl⟩, rfl, rfl, rfl, rfl, by cbv; try simp⟩
                                                · rw [hc75]
                                                  cbv
                                                  rcases condS h2 with ⟨hc76, h2⟩ | ⟨hc76, h2⟩
                                                  · rw [hc76]
                                                    cbv
                                                    rcases condS h2 with ⟨hc77, h2⟩ | ⟨hc77, h2⟩
                                                    · rw [hc77]
                                                      cbv
                                                      cases h2
                                                      try dsimp only at h1
                                                      rcases condS h1 with ⟨hc78, h1⟩ | ⟨hc78, h1⟩
                                                      · rw [hc78]
                                                        cbv
                                                        cases h1
                                                        cases exitI hi1
                                                        try dsimp only at h0
                                                        cases h0
                                                        exact fin_ok hX rfl ⟨[], _, _, ⟨rfl, rfl⟩, rfl, rfl, rfl, rfl, by cbv; try simp⟩
                                                      · rw [hc78]
                                                        cbv
                                                        obtain ⟨hg79, h1⟩ := grdS h1
                                                        refine ⟨inr_of hO hg79, ?_⟩
                                                        cases h1
                                                        exact ⟨_, [0, 1, 2, 3, 4, 5, 6, 7, 8, 9], nextI hI1 hi1, by cbv; try simp, by first | exact Nat.lt_succ_self _ | omega⟩
                                                    · rw [hc77]
                                                      cbv
                                                      cases h2
                                                      try dsimp only at h1
                                                      replace h1 := condF h1 rfl
                                                      obtain ⟨hg80, h1⟩ := grdS h1
                                                      refine ⟨inr_of hO hg80, ?_⟩
                                                      cases h1
                                                      exact ⟨_, [0, 1, 2, 3, 4, 5, 6, 7, 8, 9], nextI hI1 hi1, by cbv; try simp, by first | exact Nat.lt_succ_self _ | omega⟩
                                                  · rw [hc76]
                                                    cbv
                                                    cases h2
                                                    try dsimp only at h1
                                                    replace h1 := condF h1 rfl
                                                    obtain ⟨hg81, h1⟩ := grdS h1
                                                    refine ⟨inr_of hO hg81, ?_⟩
                                                    cases h1
                                                    exact ⟨_, [0, 1, 2, 3, 4, 5, 6, 7, 8, 9], nextI hI1 hi1, by cbv; try simp, by first | exact Nat.lt_succ_self _ | omega⟩
                                        · rw [hc69]
                                          cbv
                                          cases h1
                                          cases exitI hi1
                                          try dsimp only at h0
                                          obtain ⟨l26, hv, h0⟩ := bindS h0
                                          refine call_is hO hX (fn_recurrence_times hO hv) (by kernel_rfl) [0, 1, 2, 3, 4, 5, 6, 7, 8] rfl ⟨rfl, rfl, rfl, rfl, rfl, rfl, rfl, rfl, rfl, rfl, rfl, rfl, rfl, rfl, rfl, rfl, rfl, rfl, trivial⟩ rfl ?_
                                          cbv
                                          cases h0
                                          exact fin_ok hX rfl ⟨[], _, _, ⟨rfl, rfl⟩, rfl, rfl, rfl, rfl, by cbv; try simp⟩
end Go.Proofs.YtmnhfaaaaejpaaaGreat
namespace Go.Proofs.YtmnhfaaaaejpaaaGreat
open Go.RowKit
set_option maxRecDepth 100000

set_option maxHeartbeats 40000000 in
theorem fn_recurrence_given {O0 : Ops} (hO0 : O0 = std) {r_1 : Int} {r_2 : Int} {r_3 : Int} {r_4 : Int} {r_5 : Int} {start_1 : Int} {r_6 : List Int} {r_7 : List Int} {r_8 : List Int} {r_9 : List Int} {r_10 : List (Int × Int)} {r_11 : List Int} {r_12 : List Int} {r_13 : List Int} {r_14 : List Int} {r1 : Int} (h : m_recurrence_given O0 r_1 r_2 r_3 r_4 r_5 start_1 r_6 r_7 r_8 r_9 r_10 r_11 r_12 r_13 r_14 = some r1) :
    Fn Tryz.prog 36 [.agg [.int .i64 r_1, .int .i64 r_2, .int .i64 r_3, .int .i64 r_4, .sl 0, .sl 1, .sl 2, .sl 3, .sl 4, .sl 5, .sl 6, .sl 7, .sl 8, .int .i64 r_5], .c (.int .i64 start_1)] [.arr false .i1 r_6, .arr false .i1 r_7, .arr false .i1 r_8, .arr false .i1 r_9, .arr false .i2 r_10, .arr false .i1 r_11, .arr false .i1 r_12, .arr false .i1 r_13, .arr false .i1 r_14] (fun v c => v = .c (.int .i64 r1) ∧ c = []) := by
  refine fn_run tab_holds eqs_holds mixed [] Tryz.func36 (by kernel_rfl) (by kernel_rfl) (Nat.le_of_ble_eq_true rfl) ?_
  intro O X hO hX
  rw [hO0, ← hO] at h
  unfold m_recurrence_given at h
  have h0 := h; clear h
  cbv
  obtain ⟨x75, h1, h0⟩ := bindS h0
  obtain ⟨b12, hv, h1⟩ := bindS h1
  refine call_is hO hX (fn_recurrence_Valid hO hv) (by kernel_rfl) [0, 1, 2, 3, 4, 5, 6, 7, 8] rfl ⟨rfl, rfl, rfl, rfl, rfl, rfl, rfl, rfl, rfl, rfl, rfl, rfl, rfl, rfl, rfl, rfl, rfl, rfl, trivial⟩ rfl ?_
  cbv
  rcases condS h1 with ⟨hc1, h1⟩ | ⟨hc1, h1⟩
  · rw [hc1]
    cbv
    cases h1
    try dsimp only at h0
    replace h0 := condT h0 rfl
    cases h0
    exact fin_ok hX rfl ⟨[], _, _, ⟨rfl, rfl⟩, rfl, rfl, rfl, rfl, by cbv; try simp⟩
  · rw [hc1]
    cbv
    obtain ⟨b13, hv, h1⟩ := bindS h1
    refine call_is hO hX (fn_recurrence_local hO hv) (by kernel_rfl) [] rfl trivial rfl ?_
    cbv
    cases h1
    try dsimp only at h0
    rcases condS h0 with ⟨hc2, h0⟩ | ⟨hc2, h0⟩
    · rw [hc2]
      cbv
      cases h0
      exact fin_ok hX rfl ⟨[], _, _, ⟨rfl, rfl⟩, rfl, rfl, rfl, rfl, by cbv; try simp⟩
    · rw [hc2]
      cbv
      cases h0
      exact fin_ok hX rfl ⟨[], _, _, ⟨rfl, rfl⟩, rfl, rfl, rfl, rfl, by cbv; try simp⟩
end Go.Proofs.YtmnhfaaaaejpaaaGreat
