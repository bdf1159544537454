/-
  The code does what its models say (printed by lift.py).
-/
import Derived.Test.YtfhfifcfkimgpaaHM
import Derived.Test.YtfhfifcfkimgpaaManW2
import Derived.Test.YtfhfifcfkimgpaaJW5
import Derived.Test.YtfhfifcfkimgpaaJW13
import Derived.Test.YtfhfifcfkimgpaaJW20
namespace Go.Proofs.Ytfhfifcfkimgpaa
open Go.RowKit
set_option maxRecDepth 100000

set_option maxHeartbeats 40000000 in
theorem fn_periodic_Within {O0 : Ops} (hO0 : O0 = std) {a_1 : Int} {b_1 : Int} {a_2 : List (Int × Int)} {b_2 : List (Int × Int)} {r1 : Bool} {r2 : Int} (h : m_periodic_Within O0 a_1 b_1 a_2 b_2 = some (r1, r2)) :
    Fn Try.prog 15 [.agg [.int .i64 a_1, .sl 0], .agg [.int .i64 b_1, .sl 1]] [.arr false .i2 a_2, .arr false .i2 b_2] (fun v c => v = .tup [.one (.bool r1), .one (.int .i64 r2)] ∧ c = []) := by
  refine fn_run tab_holds eqs_holds mixed [] Try.func15 (by kernel_rfl) (by kernel_rfl) (Nat.le_of_ble_eq_true rfl) ?_
  intro O X hO hX
  rw [hO0, ← hO] at h
  unfold m_periodic_Within at h
  have h0 := h; clear h
  cbv
  obtain ⟨⟨n203, l263, n204⟩, hv, h0⟩ := bindS h0
  try dsimp only at h0
  refine call_is hO hX (fn_periodic_Minus hO hv) (by kernel_rfl) [0, 1] rfl ⟨rfl, rfl, rfl, rfl, trivial⟩ rfl ?_
  cbv
  obtain ⟨x483, h1, h0⟩ := bindS h0
  rcases condS h1 with ⟨hc1, h1⟩ | ⟨hc1, h1⟩
  · rw [hc1]
    cbv
    cases h1
    try dsimp only at h0
    cases h0
    exact fin_ok hX rfl ⟨[], _, _, ⟨rfl, rfl⟩, rfl, rfl, rfl, rfl, by cbv; try simp⟩
  · rw [hc1]
    cbv
    cases h1
    try dsimp only at h0
    cases h0
    exact fin_ok hX rfl ⟨[], _, _, ⟨rfl, rfl⟩, rfl, rfl, rfl, rfl, by cbv; try simp⟩
set_option maxHeartbeats 40000000 in
theorem fn_law13_PeriodicWithin {O0 : Ops} (hO0 : O0 = std) {a_1 : Int} {b_1 : Int} {a_2 : List (Int × Int)} {b_2 : List (Int × Int)} {r1 : Bool} (h : m_law13_PeriodicWithin O0 a_1 b_1 a_2 b_2 = some r1) :
    Fn Try.prog 3 [.agg [.int .i64 a_1, .sl 0], .agg [.int .i64 b_1, .sl 1]] [.arr false .i2 a_2, .arr false .i2 b_2] (fun v c => v = .c (.bool r1) ∧ c = []) := by
  refine fn_run tab_holds eqs_holds mixed [] Try.func3 (by kernel_rfl) (by kernel_rfl) (Nat.le_of_ble_eq_true rfl) ?_
  intro O X hO hX
  rw [hO0, ← hO] at h
  unfold m_law13_PeriodicWithin at h
  have h0 := h; clear h
  cbv
  obtain ⟨x481, h1, h0⟩ := bindS h0
  obtain ⟨b189, hv, h1⟩ := bindS h1
  refine call_is hO hX (fn_law13_awake hO hv) (by kernel_rfl) [] rfl trivial rfl ?_
  cbv
  rcases condS h1 with ⟨hc1, h1⟩ | ⟨hc1, h1⟩
  · rw [hc1]
    cbv
    cases h1
    try dsimp only at h0
    replace h0 := condT h0 rfl
    obtain ⟨b192, hv, h0⟩ := bindS h0
    refine call_is hO hX (fn_law13_awake hO hv) (by kernel_rfl) [] rfl trivial rfl ?_
    cbv
    cases h0
    exact fin_ok hX rfl ⟨[], _, _, ⟨rfl, rfl⟩, rfl, rfl, rfl, rfl, by cbv; try simp⟩
  · as_aux_lemma =>
    rw [hc1]
    cbv
    obtain ⟨b190, hv, h1⟩ := bindS h1
    refine call_is hO hX (fn_law13_long hO hv) (by kernel_rfl) [0] rfl ⟨rfl, rfl, trivial⟩ rfl ?_
    cbv
    rcases condS h1 with ⟨hc2, h1⟩ | ⟨hc2, h1⟩
    · rw [hc2]
      cbv
      cases h1
      try dsimp only at h0
      replace h0 := condT h0 rfl
      obtain ⟨b192, hv, h0⟩ := bindS h0
      refine call_is hO hX (fn_law13_awake hO hv) (by kernel_rfl) [] rfl trivial rfl ?_
      cbv
      cases h0
      exact fin_ok hX rfl ⟨[], _, _, ⟨rfl, rfl⟩, rfl, rfl, rfl, rfl, by cbv; try simp⟩
    · as_aux_lemma =>
      rw [hc2]
      cbv
      obtain ⟨b191, hv, h1⟩ := bindS h1
      refine call_is hO hX (fn_law13_long hO hv) (by kernel_rfl) [1] rfl ⟨rfl, rfl, trivial⟩ rfl ?_
      cbv
      cases h1
      try dsimp only at h0
      rcases condS h0 with ⟨hc3, h0⟩ | ⟨hc3, h0⟩
      · rw [hc3]
        cbv
        obtain ⟨b192, hv, h0⟩ := bindS h0
        refine call_is hO hX (fn_law13_awake hO hv) (by kernel_rfl) [] rfl trivial rfl ?_
        cbv
        cases h0
        exact fin_ok hX rfl ⟨[], _, _, ⟨rfl, rfl⟩, rfl, rfl, rfl, rfl, by cbv; try simp⟩
      · as_aux_lemma =>
        rw [hc3]
        cbv
        obtain ⟨⟨b193, n205⟩, hv, h0⟩ := bindS h0
        try dsimp only at h0
        refine call_is hO hX (fn_periodic_Within hO hv) (by kernel_rfl) [0, 1] rfl ⟨rfl, rfl, rfl, rfl, trivial⟩ rfl ?_
        cbv
        obtain ⟨⟨n206, l264, n207⟩, hv, h0⟩ := bindS h0
        try dsimp only at h0
        refine call_is hO hX (fn_periodic_Minus hO hv) (by kernel_rfl) [0, 1] rfl ⟨rfl, rfl, rfl, rfl, trivial⟩ rfl ?_
        cbv
        obtain ⟨⟨ok7, x489⟩, h1, h0⟩ := bindS h0
        rcases condS h1 with ⟨hc4, h1⟩ | ⟨hc4, h1⟩
        · as_aux_lemma =>
          rw [hc4]
          cbv
          rcases condS h1 with ⟨hc5, h1⟩ | ⟨hc5, h1⟩
          · rw [hc5]
            cbv
            cases h1
            try dsimp only at h0
            replace h0 := condT h0 rfl
            cases h0
            exact fin_ok hX rfl ⟨[], _, _, ⟨rfl, rfl⟩, rfl, rfl, rfl, rfl, by cbv; try simp⟩
          · as_aux_lemma =>
            rw [hc5]
            cbv
            rcases condS h1 with ⟨hc6, h1⟩ | ⟨hc6, h1⟩
            · rw [hc6]
              cbv
              rcases condS h1 with ⟨hc7, h1⟩ | ⟨hc7, h1⟩
              · rw [hc7]
                cbv
                cases h1
                try dsimp only at h0
                replace h0 := condT h0 rfl
                cases h0
                exact fin_ok hX rfl ⟨[], _, _, ⟨rfl, rfl⟩, rfl, rfl, rfl, rfl, by cbv; try simp⟩
              · rw [hc7]
                cbv
                try (rw [hc5]; cbv)
                try (rw [hc6]; cbv)
                cases h1
                try dsimp only at h0
                replace h0 := condF h0 hc5
                replace h0 := condT h0 hc6
                cases h0
                exact fin_ok hX rfl ⟨[], _, _, ⟨rfl, rfl⟩, rfl, rfl, rfl, rfl, by cbv; try simp⟩
            · as_aux_lemma =>
              rw [hc6]
              cbv
              try (rw [hc6]; cbv)
              cases h1
              try dsimp only at h0
              replace h0 := condF h0 rfl
              replace h0 := condF h0 hc6
              rcases condS h0 with ⟨hc8, h0⟩ | ⟨hc8, h0⟩
              · rw [hc8]
                cbv
                cases h0
                exact fin_ok hX rfl ⟨[], _, _, ⟨rfl, rfl⟩, rfl, rfl, rfl, rfl, by cbv; try simp⟩
              · as_aux_lemma =>
                rw [hc8]
                cbv
                obtain ⟨⟨n208, l265, n209⟩, hv, h0⟩ := bindS h0
                try dsimp only at h0
                refine call_is hO hX (fn_periodic_Meet hO hv) (by kernel_rfl) [0, 1] rfl ⟨rfl, rfl, rfl, rfl, trivial⟩ rfl ?_
                cbv
                obtain ⟨⟨n210, l266, n211⟩, hv, h0⟩ := bindS h0
                try dsimp only at h0
                refine call_is hO hX (fn_periodic_Union hO hv) (by kernel_rfl) [0, 1] rfl ⟨rfl, rfl, rfl, rfl, trivial⟩ rfl ?_
                cbv
                obtain ⟨x491, h1, h0⟩ := bindS h0
                rcases condS h1 with ⟨hc9, h1⟩ | ⟨hc9, h1⟩
                · rw [hc9]
                  cbv
                  cases h1
                  try dsimp only at h0
                  replace h0 := condT h0 rfl
                  cases h0
                  exact fin_ok hX rfl ⟨[], _, _, ⟨rfl, rfl⟩, rfl, rfl, rfl, rfl, by cbv; try simp⟩
                · as_aux_lemma =>
                  rw [hc9]
                  cbv
                  cases h1
                  try dsimp only at h0
                  rcases condS h0 with ⟨hc10, h0⟩ | ⟨hc10, h0⟩
                  · rw [hc10]
                    cbv
                    cases h0
                    exact fin_ok hX rfl ⟨[], _, _, ⟨rfl, rfl⟩, rfl, rfl, rfl, rfl, by cbv; try simp⟩
                  · as_aux_lemma =>
                    rw [hc10]
                    cbv
                    obtain ⟨⟨b194, n212⟩, hv, h0⟩ := bindS h0
                    try dsimp only at h0
                    refine call_is hO hX (fn_periodic_Within hO hv) (by kernel_rfl) [6, 0] rfl ⟨rfl, rfl, rfl, rfl, trivial⟩ rfl ?_
                    cbv
                    obtain ⟨⟨b195, n213⟩, hv, h0⟩ := bindS h0
                    try dsimp only at h0
                    refine call_is hO hX (fn_periodic_Within hO hv) (by kernel_rfl) [1, 8] rfl ⟨rfl, rfl, rfl, rfl, trivial⟩ rfl ?_
                    cbv
                    obtain ⟨x496, h1, h0⟩ := bindS h0
                    rcases condS h1 with ⟨hc11, h1⟩ | ⟨hc11, h1⟩
                    · rw [hc11]
                      cbv
                      rcases condS h1 with ⟨hc12, h1⟩ | ⟨hc12, h1⟩
                      · rw [hc12]
                        cbv
                        cases h1
                        try dsimp only at h0
                        cases h0
                        exact fin_ok hX rfl ⟨[], _, _, ⟨rfl, rfl⟩, rfl, rfl, rfl, rfl, by cbv; try simp⟩
                      · rw [hc12]
                        cbv
                        cases h1
                        try dsimp only at h0
                        cases h0
                        exact fin_ok hX rfl ⟨[], _, _, ⟨rfl, rfl⟩, rfl, rfl, rfl, rfl, by cbv; try simp⟩
                    · rw [hc11]
                      cbv
                      rcases condS h1 with ⟨hc13, h1⟩ | ⟨hc13, h1⟩
                      · rw [hc13]
                        cbv
                        rcases condS h1 with ⟨hc14, h1⟩ | ⟨hc14, h1⟩
                        · rw [hc14]
                          cbv
                          cases h1
                          try dsimp only at h0
                          cases h0
                          exact fin_ok hX rfl ⟨[], _, _, ⟨rfl, rfl⟩, rfl, rfl, rfl, rfl, by cbv; try simp⟩
                        · rw [hc14]
                          cbv
                          cases h1
                          try dsimp only at h0
                          cases h0
                          exact fin_ok hX rfl ⟨[], _, _, ⟨rfl, rfl⟩, rfl, rfl, rfl, rfl, by cbv; try simp⟩
                      · rw [hc13]
                        cbv
                        cases h1
                        try dsimp only at h0
                        cases h0
                        exact fin_ok hX rfl ⟨[], _, _, ⟨rfl, rfl⟩, rfl, rfl, rfl, rfl, by cbv; try simp⟩
        · as_aux_lemma =>
          rw [hc4]
          cbv
          rcases condS h1 with ⟨hc15, h1⟩ | ⟨hc15, h1⟩
          · rw [hc15]
            cbv
            rcases condS h1 with ⟨hc16, h1⟩ | ⟨hc16, h1⟩
            · rw [hc16]
              cbv
              cases h1
              try dsimp only at h0
              replace h0 := condT h0 rfl
              cases h0
              exact fin_ok hX rfl ⟨[], _, _, ⟨rfl, rfl⟩, rfl, rfl, rfl, rfl, by cbv; try simp⟩
            · rw [hc16]
              cbv
              cases h1
              try dsimp only at h0
              rcases condS h0 with ⟨hc17, h0⟩ | ⟨hc17, h0⟩
              · rw [hc17]
                cbv
                cases h0
                exact fin_ok hX rfl ⟨[], _, _, ⟨rfl, rfl⟩, rfl, rfl, rfl, rfl, by cbv; try simp⟩
              · rw [hc17]
                cbv
                try (rw [hc15]; cbv)
                replace h0 := condT h0 hc15
                cases h0
                exact fin_ok hX rfl ⟨[], _, _, ⟨rfl, rfl⟩, rfl, rfl, rfl, rfl, by cbv; try simp⟩
          · as_aux_lemma =>
            rw [hc15]
            cbv
            try (rw [hc15]; cbv)
            cases h1
            try dsimp only at h0
            replace h0 := condF h0 rfl
            replace h0 := condF h0 hc15
            rcases condS h0 with ⟨hc18, h0⟩ | ⟨hc18, h0⟩
            · rw [hc18]
              cbv
              cases h0
              exact fin_ok hX rfl ⟨[], _, _, ⟨rfl, rfl⟩, rfl, rfl, rfl, rfl, by cbv; try simp⟩
            · as_aux_lemma =>
              rw [hc18]
              cbv
              obtain ⟨⟨n208, l265, n209⟩, hv, h0⟩ := bindS h0
              try dsimp only at h0
              refine call_is hO hX (fn_periodic_Meet hO hv) (by kernel_rfl) [0, 1] rfl ⟨rfl, rfl, rfl, rfl, trivial⟩ rfl ?_
              cbv
              obtain ⟨⟨n210, l266, n211⟩, hv, h0⟩ := bindS h0
              try dsimp only at h0
              refine call_is hO hX (fn_periodic_Union hO hv) (by kernel_rfl) [0, 1] rfl ⟨rfl, rfl, rfl, rfl, trivial⟩ rfl ?_
              cbv
              obtain ⟨x491, h1, h0⟩ := bindS h0
              rcases condS h1 with ⟨hc19, h1⟩ | ⟨hc19, h1⟩
              · rw [hc19]
                cbv
                cases h1
                try dsimp only at h0
                replace h0 := condT h0 rfl
                cases h0
                exact fin_ok hX rfl ⟨[], _, _, ⟨rfl, rfl⟩, rfl, rfl, rfl, rfl, by cbv; try simp⟩
              · as_aux_lemma =>
                rw [hc19]
                cbv
                cases h1
                try dsimp only at h0
                rcases condS h0 with ⟨hc20, h0⟩ | ⟨hc20, h0⟩
                · rw [hc20]
                  cbv
                  cases h0
                  exact fin_ok hX rfl ⟨[], _, _, ⟨rfl, rfl⟩, rfl, rfl, rfl, rfl, by cbv; try simp⟩
                · as_aux_lemma =>
                  rw [hc20]
                  cbv
                  obtain ⟨⟨b194, n212⟩, hv, h0⟩ := bindS h0
                  try dsimp only at h0
                  refine call_is hO hX (fn_periodic_Within hO hv) (by kernel_rfl) [6, 0] rfl ⟨rfl, rfl, rfl, rfl, trivial⟩ rfl ?_
                  cbv
                  obtain ⟨⟨b195, n213⟩, hv, h0⟩ := bindS h0
                  try dsimp only at h0
                  refine call_is hO hX (fn_periodic_Within hO hv) (by kernel_rfl) [1, 8] rfl ⟨rfl, rfl, rfl, rfl, trivial⟩ rfl ?_
                  cbv
                  obtain ⟨x496, h1, h0⟩ := bindS h0
                  rcases condS h1 with ⟨hc21, h1⟩ | ⟨hc21, h1⟩
                  · rw [hc21]
                    cbv
                    rcases condS h1 with ⟨hc22, h1⟩ | ⟨hc22, h1⟩
                    · rw [hc22]
                      cbv
                      cases h1
                      try dsimp only at h0
                      cases h0
                      exact fin_ok hX rfl ⟨[], _, _, ⟨rfl, rfl⟩, rfl, rfl, rfl, rfl, by cbv; try simp⟩
                    · rw [hc22]
                      cbv
                      cases h1
                      try dsimp only at h0
                      cases h0
                      exact fin_ok hX rfl ⟨[], _, _, ⟨rfl, rfl⟩, rfl, rfl, rfl, rfl, by cbv; try simp⟩
                  · rw [hc21]
                    cbv
                    rcases condS h1 with ⟨hc23, h1⟩ | ⟨hc23, h1⟩
                    · rw [hc23]
                      cbv
                      rcases condS h1 with ⟨hc24, h1⟩ | ⟨hc24, h1⟩
                      · rw [hc24]
                        cbv
                        cases h1
                        try dsimp only at h0
                        cases h0
                        exact fin_ok hX rfl ⟨[], _, _, ⟨rfl, rfl⟩, rfl, rfl, rfl, rfl, by cbv; try simp⟩
                      · rw [hc24]
                        cbv
                        cases h1
                        try dsimp only at h0
                        cases h0
                        exact fin_ok hX rfl ⟨[], _, _, ⟨rfl, rfl⟩, rfl, rfl, rfl, rfl, by cbv; try simp⟩
                    · rw [hc23]
                      cbv
                      cases h1
                      try dsimp only at h0
                      cases h0
                      exact fin_ok hX rfl ⟨[], _, _, ⟨rfl, rfl⟩, rfl, rfl, rfl, rfl, by cbv; try simp⟩
end Go.Proofs.Ytfhfifcfkimgpaa
