/-
  The code does what its models say (printed by lift.py).
-/
import Derived.Test.YtlpbdikmhngmfaaQM
import Derived.Test.YtlpbdikmhngmfaaManWC
import Derived.Test.YtlpbdikmhngmfaaSW6
namespace Go.Proofs.Ytlpbdikmhngmfaa
open Go.RowKit
set_option maxRecDepth 100000

set_option maxHeartbeats 40000000 in
theorem fn_ref13_Lists {O0 : Ops} (hO0 : O0 = std) {kind_1 : Int} {a_1 : List (Int × Int)} {b_1 : List (Int × Int)} {r1 : List (Int × Int)} (h : m_ref13_Lists O0 kind_1 a_1 b_1 = some r1) :
    Fn Try.prog 47 [.c (.sl 0), .c (.sl 1), .c (.int .i64 kind_1)] [.arr false .i2 a_1, .arr false .i2 b_1] (fun v c => v = .c (.sl 2) ∧ c = [.own 29 .i2 r1]) := by
  refine fn_run tab_holds eqs_holds mixed [(7, (.seg 1 [0, 1, 2, 3, 4, 5, 6, 7, 8, 9, 10] .fin), []), (13, (.seg 1 [0, 1, 2, 3, 4, 5, 6, 7, 8, 9, 10, 11, 12, 13, 14, 15, 16, 17, 18, 19, 20, 21, 22, 23, 24, 25, 26] (.seg 2 [27] (.seg 1 [28] .fin))), [])] Try.func47 (by kernel_rfl) (by kernel_rfl) (Nat.le_of_ble_eq_true rfl) ?_
  intro O X hO hX
  rw [hO0, ← hO] at h
  unfold m_ref13_Lists at h
  have h0 := h; clear h
  cbv
  obtain ⟨l94, hv, h0⟩ := bindS h0
  refine call_is hO hX (fn_ref13_ends hO hv) (by kernel_rfl) [0, 1] rfl ⟨rfl, rfl, rfl, rfl, trivial⟩ rfl ?_
  cbv
  obtain ⟨l100, hi, h0⟩ := bindS h0
  obtain ⟨I3, hI3, hi⟩ := loopS hi
  refine loop1 tab_holds eqs_holds mixed [(7, (.seg 1 [0, 1, 2, 3, 4, 5, 6, 7, 8, 9, 10] .fin), []), (13, (.seg 1 [0, 1, 2, 3, 4, 5, 6, 7, 8, 9, 10, 11, 12, 13, 14, 15, 16, 17, 18, 19, 20, 21, 22, 23, 24, 25, 26] (.seg 2 [27] (.seg 1 [28] .fin))), [])] hO hX I3 (fun y => [(6, .junk), (16, .junk), (8, .c (.sl 4)), (9, .c (.int .i64 y.2.1)), (10, .c (.int .i64 y.2.2.1)), (11, .c (.int .i64 y.2.2.2.1))]) (fun y => [(4, .own 29 .i2 y.2.2.2.2)]) (fun y => y.1) _ (by kernel_rfl) hi (by cbv; try simp) ?_
  refine allp ?_
  intro n3
  refine allp ?_
  intro i25
  refine allp ?_
  intro k16
  refine allp ?_
  intro c2
  intro l97 hi
  cbv
  rw [hI3] at hi
  obtain ⟨n3, rfl, x3, h1, hi3⟩ := iterS hi
  unfold m_ref13_Lists_L3 at h1
  try dsimp only at h1
  obtain ⟨hg1, h1⟩ := grdS h1
  refine ⟨inr_of hO hg1, ?_⟩
  rcases condS h1 with ⟨hc2, h1⟩ | ⟨hc2, h1⟩
  · as_aux_lemma =>
    rw [hc2]
    cbv
    obtain ⟨hg3, h1⟩ := grdS h1
    refine ⟨idx_of hO hg3, ?_⟩
    obtain ⟨hg4, h1⟩ := grdS h1
    refine ⟨kin_of hO hg4, ?_⟩
    refine ⟨inr_of hO hg1, ?_⟩
    obtain ⟨hg5, h1⟩ := grdS h1
    refine ⟨idx_of hO hg5, ?_⟩
    obtain ⟨hg6, h1⟩ := grdS h1
    refine ⟨kin_of hO hg6, ?_⟩
    rcases condS h1 with ⟨hc7, h1⟩ | ⟨hc7, h1⟩
    · rw [hc7]
      cbv
      refine ⟨inr_of hO hg1, ?_⟩
      cases h1
      exact ⟨_, [0, 1, 2, 3, 4], nextI hI3 hi3, by cbv; try simp, by first | exact Nat.lt_succ_self _ | omega⟩
    · as_aux_lemma =>
      rw [hc7]
      cbv
      obtain ⟨i27, hi, h1⟩ := bindS h1
      obtain ⟨I1, hI1, hi⟩ := loopS hi
      refine loop1 tab_holds eqs_holds mixed [(7, (.seg 1 [0, 1, 2, 3, 4, 5, 6, 7, 8, 9, 10] .fin), []), (13, (.seg 1 [0, 1, 2, 3, 4, 5, 6, 7, 8, 9, 10, 11, 12, 13, 14, 15, 16, 17, 18, 19, 20, 21, 22, 23, 24, 25, 26] (.seg 2 [27] (.seg 1 [28] .fin))), [])] hO hX I1 (fun y => [(19, .junk), (24, .junk), (26, .junk), (28, .junk), (31, .junk), (9, .c (.int .i64 y.2))]) (fun _ => []) (fun y => y.1) _ (by kernel_rfl) hi (by cbv; try simp) ?_
      refine allp ?_
      intro n1
      intro i26 hi
      cbv
      rw [hI1] at hi
      obtain ⟨n1, rfl, x1, h2, hi1⟩ := iterS hi
      unfold m_ref13_Lists_L1 at h2
      try dsimp only at h2
      obtain ⟨x153, h3, h2⟩ := bindS h2
      rcases condS h3 with ⟨hc8, h3⟩ | ⟨hc8, h3⟩
      · as_aux_lemma =>
        rw [hc8]
        cbv
        obtain ⟨hg9, h3⟩ := grdS h3
        refine ⟨idx_of hO hg9, ?_⟩
        obtain ⟨hg10, h3⟩ := grdS h3
        refine ⟨kin_of hO hg10, ?_⟩
        cases h3
        try dsimp only at h2
        rcases condS h2 with ⟨hc11, h2⟩ | ⟨hc11, h2⟩
        · rw [hc11]
          cbv
          obtain ⟨hg12, h2⟩ := grdS h2
          refine ⟨inr_of hO hg12, ?_⟩
          cases h2
          exact ⟨_, [0, 1, 2, 3, 4], nextI hI1 hi1, by cbv; try simp, by first | exact Nat.lt_succ_self _ | omega⟩
        · as_aux_lemma =>
          rw [hc11]
          cbv
          cases h2
          cases exitI hi1
          try dsimp only at h1
          obtain ⟨k18, hi, h1⟩ := bindS h1
          obtain ⟨I2, hI2, hi⟩ := loopS hi
          refine loop1 tab_holds eqs_holds mixed [(7, (.seg 1 [0, 1, 2, 3, 4, 5, 6, 7, 8, 9, 10] .fin), []), (13, (.seg 1 [0, 1, 2, 3, 4, 5, 6, 7, 8, 9, 10, 11, 12, 13, 14, 15, 16, 17, 18, 19, 20, 21, 22, 23, 24, 25, 26] (.seg 2 [27] (.seg 1 [28] .fin))), [])] hO hX I2 (fun y => [(10, .c (.int .i64 y.2))]) (fun _ => []) (fun y => y.1) _ (by kernel_rfl) hi (by cbv; try simp) ?_
          refine allp ?_
          intro n2
          intro k17 hi
          cbv
          rw [hI2] at hi
          obtain ⟨n2, rfl, x2, h2, hi2⟩ := iterS hi
          unfold m_ref13_Lists_L2 at h2
          try dsimp only at h2
          obtain ⟨x155, h3, h2⟩ := bindS h2
          rcases condS h3 with ⟨hc13, h3⟩ | ⟨hc13, h3⟩
          · as_aux_lemma =>
            rw [hc13]
            cbv
            obtain ⟨hg14, h3⟩ := grdS h3
            refine ⟨idx_of hO hg14, ?_⟩
            obtain ⟨hg15, h3⟩ := grdS h3
            refine ⟨kin_of hO hg15, ?_⟩
            cases h3
            try dsimp only at h2
            rcases condS h2 with ⟨hc16, h2⟩ | ⟨hc16, h2⟩
            · rw [hc16]
              cbv
              obtain ⟨hg17, h2⟩ := grdS h2
              refine ⟨inr_of hO hg17, ?_⟩
              cases h2
              exact ⟨_, [0, 1, 2, 3, 4], nextI hI2 hi2, by cbv; try simp, by first | exact Nat.lt_succ_self _ | omega⟩
            · as_aux_lemma =>
              rw [hc16]
              cbv
              cases h2
              cases exitI hi2
              try dsimp only at h1
              try (rw [hc8]; cbv)
              try (rw [hc13]; cbv)
              obtain ⟨x159, h2, h1⟩ := bindS h1
              replace h2 := condT h2 hc8
              replace h2 := condT h2 hc13
              obtain ⟨hg18, h2⟩ := grdS h2
              refine ⟨idx_of hO hg18, ?_⟩
              obtain ⟨hg19, h2⟩ := grdS h2
              refine ⟨kin_of hO hg19, ?_⟩
              obtain ⟨hg20, h2⟩ := grdS h2
              refine ⟨idx_of hO hg20, ?_⟩
              obtain ⟨hg21, h2⟩ := grdS h2
              refine ⟨kin_of hO hg21, ?_⟩
              obtain ⟨b35, hv, h2⟩ := bindS h2
              refine call_is hO hX (fn_ref13_rule hO hv) (by kernel_rfl) [] rfl trivial rfl ?_
              cbv
              cases h2
              try dsimp only at h1
              rcases condS h1 with ⟨hc22, h1⟩ | ⟨hc22, h1⟩
              · rw [hc22]
                cbv
                refine ⟨inr_of hO hg1, ?_⟩
                cases h1
                exact ⟨_, [0, 1, 2, 3, 4], nextI hI3 hi3, by cbv; try simp, by first | exact Nat.lt_succ_self _ | omega⟩
              · as_aux_lemma =>
                rw [hc22]
                cbv
                obtain ⟨x161, h2, h1⟩ := bindS h1
                rcases condS h2 with ⟨hc23, h2⟩ | ⟨hc23, h2⟩
                · rw [hc23]
                  cbv
                  obtain ⟨hg24, h2⟩ := grdS h2
                  refine ⟨inr_of hO hg24, ?_⟩
                  obtain ⟨hg25, h2⟩ := grdS h2
                  refine ⟨idx_of hO hg25, ?_⟩
                  obtain ⟨hg26, h2⟩ := grdS h2
                  refine ⟨kin_of hO hg26, ?_⟩
                  cases h2
                  try dsimp only at h1
                  obtain ⟨l99, h2, h1⟩ := bindS h1
                  rcases condS h2 with ⟨hc27, h2⟩ | ⟨hc27, h2⟩
                  · rw [hc27]
                    cbv
                    obtain ⟨hg28, h2⟩ := grdS h2
                    refine ⟨inr_of hO hg28, ?_⟩
                    obtain ⟨hg29, h2⟩ := grdS h2
                    refine ⟨idx_of hO hg29, ?_⟩
                    obtain ⟨hg30, h2⟩ := grdS h2
                    refine ⟨kin_of hO hg30, ?_⟩
                    cases h2
                    try dsimp only at h1
                    refine ⟨inr_of hO hg1, ?_⟩
                    cases h1
                    exact ⟨_, [0, 1, 2, 3, 4], nextI hI3 hi3, by cbv; try simp, by first | exact Nat.lt_succ_self _ | omega⟩
                  · rw [hc27]
                    cbv
                    obtain ⟨hg31, h2⟩ := grdS h2
                    refine ⟨room_of hO hg31, ?_⟩
                    obtain ⟨hg32, h2⟩ := grdS h2
                    refine ⟨room_of hO hg32, ?_⟩
                    cases h2
                    try dsimp only at h1
                    refine ⟨inr_of hO hg1, ?_⟩
                    cases h1
                    exact ⟨_, [0, 1, 2, 3, 6], nextI hI3 hi3, by cbv; try simp, by first | exact Nat.lt_succ_self _ | omega⟩
                · rw [hc23]
                  cbv
                  cases h2
                  try dsimp only at h1
                  obtain ⟨l99, h2, h1⟩ := bindS h1
                  replace h2 := condF h2 rfl
                  obtain ⟨hg33, h2⟩ := grdS h2
                  refine ⟨room_of hO hg33, ?_⟩
                  obtain ⟨hg34, h2⟩ := grdS h2
                  refine ⟨room_of hO hg34, ?_⟩
                  cases h2
                  try dsimp only at h1
                  refine ⟨inr_of hO hg1, ?_⟩
                  cases h1
                  exact ⟨_, [0, 1, 2, 3, 6], nextI hI3 hi3, by cbv; try simp, by first | exact Nat.lt_succ_self _ | omega⟩
          · as_aux_lemma =>
            rw [hc13]
            cbv
            cases h3
            try dsimp only at h2
            replace h2 := condF h2 rfl
            cases h2
            cases exitI hi2
            try dsimp only at h1
            try (rw [hc8]; cbv)
            try (rw [hc13]; cbv)
            obtain ⟨x159, h2, h1⟩ := bindS h1
            replace h2 := condT h2 hc8
            replace h2 := condF h2 hc13
            obtain ⟨hg35, h2⟩ := grdS h2
            refine ⟨idx_of hO hg35, ?_⟩
            obtain ⟨hg36, h2⟩ := grdS h2
            refine ⟨kin_of hO hg36, ?_⟩
            obtain ⟨b36, hv, h2⟩ := bindS h2
            refine call_is hO hX (fn_ref13_rule hO hv) (by kernel_rfl) [] rfl trivial rfl ?_
            cbv
            cases h2
            try dsimp only at h1
            rcases condS h1 with ⟨hc37, h1⟩ | ⟨hc37, h1⟩
            · rw [hc37]
              cbv
              refine ⟨inr_of hO hg1, ?_⟩
              cases h1
              exact ⟨_, [0, 1, 2, 3, 4], nextI hI3 hi3, by cbv; try simp, by first | exact Nat.lt_succ_self _ | omega⟩
            · as_aux_lemma =>
              rw [hc37]
              cbv
              obtain ⟨x161, h2, h1⟩ := bindS h1
              rcases condS h2 with ⟨hc38, h2⟩ | ⟨hc38, h2⟩
              · rw [hc38]
                cbv
                obtain ⟨hg39, h2⟩ := grdS h2
                refine ⟨inr_of hO hg39, ?_⟩
                obtain ⟨hg40, h2⟩ := grdS h2
                refine ⟨idx_of hO hg40, ?_⟩
                obtain ⟨hg41, h2⟩ := grdS h2
                refine ⟨kin_of hO hg41, ?_⟩
                cases h2
                try dsimp only at h1
                obtain ⟨l99, h2, h1⟩ := bindS h1
                rcases condS h2 with ⟨hc42, h2⟩ | ⟨hc42, h2⟩
                · rw [hc42]
                  cbv
                  obtain ⟨hg43, h2⟩ := grdS h2
                  refine ⟨inr_of hO hg43, ?_⟩
                  obtain ⟨hg44, h2⟩ := grdS h2
                  refine ⟨idx_of hO hg44, ?_⟩
                  obtain ⟨hg45, h2⟩ := grdS h2
                  refine ⟨kin_of hO hg45, ?_⟩
                  cases h2
                  try dsimp only at h1
                  refine ⟨inr_of hO hg1, ?_⟩
                  cases h1
                  exact ⟨_, [0, 1, 2, 3, 4], nextI hI3 hi3, by cbv; try simp, by first | exact Nat.lt_succ_self _ | omega⟩
                · rw [hc42]
                  cbv
                  obtain ⟨hg46, h2⟩ := grdS h2
                  refine ⟨room_of hO hg46, ?_⟩
                  obtain ⟨hg47, h2⟩ := grdS h2
                  refine ⟨room_of hO hg47, ?_⟩
                  cases h2
                  try dsimp only at h1
                  refine ⟨inr_of hO hg1, ?_⟩
                  cases h1
                  exact ⟨_, [0, 1, 2, 3, 6], nextI hI3 hi3, by cbv; try simp, by first | exact Nat.lt_succ_self _ | omega⟩
              · rw [hc38]
                cbv
                cases h2
                try dsimp only at h1
                obtain ⟨l99, h2, h1⟩ := bindS h1
                replace h2 := condF h2 rfl
                obtain ⟨hg48, h2⟩ := grdS h2
                refine ⟨room_of hO hg48, ?_⟩
                obtain ⟨hg49, h2⟩ := grdS h2
                refine ⟨room_of hO hg49, ?_⟩
                cases h2
                try dsimp only at h1
                refine ⟨inr_of hO hg1, ?_⟩
                cases h1
                exact ⟨_, [0, 1, 2, 3, 6], nextI hI3 hi3, by cbv; try simp, by first | exact Nat.lt_succ_self _ | omega⟩
      · as_aux_lemma =>
        rw [hc8]
        cbv
        cases h3
        try dsimp only at h2
        replace h2 := condF h2 rfl
        cases h2
        cases exitI hi1
        try dsimp only at h1
        obtain ⟨k18, hi, h1⟩ := bindS h1
        obtain ⟨I2, hI2, hi⟩ := loopS hi
        refine loop1 tab_holds eqs_holds mixed [(7, (.seg 1 [0, 1, 2, 3, 4, 5, 6, 7, 8, 9, 10] .fin), []), (13, (.seg 1 [0, 1, 2, 3, 4, 5, 6, 7, 8, 9, 10, 11, 12, 13, 14, 15, 16, 17, 18, 19, 20, 21, 22, 23, 24, 25, 26] (.seg 2 [27] (.seg 1 [28] .fin))), [])] hO hX I2 (fun y => [(10, .c (.int .i64 y.2))]) (fun _ => []) (fun y => y.1) _ (by kernel_rfl) hi (by cbv; try simp) ?_
        refine allp ?_
        intro n2
        intro k17 hi
        cbv
        rw [hI2] at hi
        obtain ⟨n2, rfl, x2, h2, hi2⟩ := iterS hi
        unfold m_ref13_Lists_L2 at h2
        try dsimp only at h2
        obtain ⟨x155, h3, h2⟩ := bindS h2
        rcases condS h3 with ⟨hc50, h3⟩ | ⟨hc50, h3⟩
        · as_aux_lemma =>
          rw [hc50]
          cbv
          obtain ⟨hg51, h3⟩ := grdS h3
          refine ⟨idx_of hO hg51, ?_⟩
          obtain ⟨hg52, h3⟩ := grdS h3
          refine ⟨kin_of hO hg52, ?_⟩
          cases h3
          try dsimp only at h2
          rcases condS h2 with ⟨hc53, h2⟩ | ⟨hc53, h2⟩
          · rw [hc53]
            cbv
            obtain ⟨hg54, h2⟩ := grdS h2
            refine ⟨inr_of hO hg54, ?_⟩
            cases h2
            exact ⟨_, [0, 1, 2, 3, 4], nextI hI2 hi2, by cbv; try simp, by first | exact Nat.lt_succ_self _ | omega⟩
          · as_aux_lemma =>
            rw [hc53]
            cbv
            cases h2
            cases exitI hi2
            try dsimp only at h1
            try (rw [hc8]; cbv)
            try (rw [hc50]; cbv)
            obtain ⟨x159, h2, h1⟩ := bindS h1
            replace h2 := condF h2 hc8
            replace h2 := condT h2 hc50
            obtain ⟨hg55, h2⟩ := grdS h2
            refine ⟨idx_of hO hg55, ?_⟩
            obtain ⟨hg56, h2⟩ := grdS h2
            refine ⟨kin_of hO hg56, ?_⟩
            obtain ⟨b37, hv, h2⟩ := bindS h2
            refine call_is hO hX (fn_ref13_rule hO hv) (by kernel_rfl) [] rfl trivial rfl ?_
            cbv
            cases h2
            try dsimp only at h1
            rcases condS h1 with ⟨hc57, h1⟩ | ⟨hc57, h1⟩
            · rw [hc57]
              cbv
              refine ⟨inr_of hO hg1, ?_⟩
              cases h1
              exact ⟨_, [0, 1, 2, 3, 4], nextI hI3 hi3, by cbv; try simp, by first | exact Nat.lt_succ_self _ | omega⟩
            · as_aux_lemma =>
              rw [hc57]
              cbv
              obtain ⟨x161, h2, h1⟩ := bindS h1
              rcases condS h2 with ⟨hc58, h2⟩ | ⟨hc58, h2⟩
              · rw [hc58]
                cbv
                obtain ⟨hg59, h2⟩ := grdS h2
                refine ⟨inr_of hO hg59, ?_⟩
                obtain ⟨hg60, h2⟩ := grdS h2
                refine ⟨idx_of hO hg60, ?_⟩
                obtain ⟨hg61, h2⟩ := grdS h2
                refine ⟨kin_of hO hg61, ?_⟩
                cases h2
                try dsimp only at h1
                obtain ⟨l99, h2, h1⟩ := bindS h1
                rcases condS h2 with ⟨hc62, h2⟩ | ⟨hc62, h2⟩
                · rw [hc62]
                  cbv
                  obtain ⟨hg63, h2⟩ := grdS h2
                  refine ⟨inr_of hO hg63, ?_⟩
                  obtain ⟨hg64, h2⟩ := grdS h2
                  refine ⟨idx_of hO hg64, ?_⟩
                  obtain ⟨hg65, h2⟩ := grdS h2
                  refine ⟨kin_of hO hg65, ?_⟩
                  cases h2
                  try dsimp only at h1
                  refine ⟨inr_of hO hg1, ?_⟩
                  cases h1
                  exact ⟨_, [0, 1, 2, 3, 4], nextI hI3 hi3, by cbv; try simp, by first | exact Nat.lt_succ_self _ | omega⟩
                · rw [hc62]
                  cbv
                  obtain ⟨hg66, h2⟩ := grdS h2
                  refine ⟨room_of hO hg66, ?_⟩
                  obtain ⟨hg67, h2⟩ := grdS h2
                  refine ⟨room_of hO hg67, ?_⟩
                  cases h2
                  try dsimp only at h1
                  refine ⟨inr_of hO hg1, ?_⟩
                  cases h1
                  exact ⟨_, [0, 1, 2, 3, 6], nextI hI3 hi3, by cbv; try simp, by first | exact Nat.lt_succ_self _ | omega⟩
              · rw [hc58]
                cbv
                cases h2
                try dsimp only at h1
                obtain ⟨l99, h2, h1⟩ := bindS h1
                replace h2 := condF h2 rfl
                obtain ⟨hg68, h2⟩ := grdS h2
                refine ⟨room_of hO hg68, ?_⟩
                obtain ⟨hg69, h2⟩ := grdS h2
                refine ⟨room_of hO hg69, ?_⟩
                cases h2
                try dsimp only at h1
                refine ⟨inr_of hO hg1, ?_⟩
                cases h1
                exact ⟨_, [0, 1, 2, 3, 6], nextI hI3 hi3, by cbv; try simp, by first | exact Nat.lt_succ_self _ | omega⟩
        · as_aux_lemma =>
          rw [hc50]
          cbv
          cases h3
          try dsimp only at h2
          replace h2 := condF h2 rfl
          cases h2
          cases exitI hi2
          try dsimp only at h1
          try (rw [hc8]; cbv)
          try (rw [hc50]; cbv)
          obtain ⟨x159, h2, h1⟩ := bindS h1
          replace h2 := condF h2 hc8
          replace h2 := condF h2 hc50
          obtain ⟨b38, hv, h2⟩ := bindS h2
          refine call_is hO hX (fn_ref13_rule hO hv) (by kernel_rfl) [] rfl trivial rfl ?_
          cbv
          cases h2
          try dsimp only at h1
          rcases condS h1 with ⟨hc70, h1⟩ | ⟨hc70, h1⟩
          · rw [hc70]
            cbv
            refine ⟨inr_of hO hg1, ?_⟩
            cases h1
            exact ⟨_, [0, 1, 2, 3, 4], nextI hI3 hi3, by cbv; try simp, by first | exact Nat.lt_succ_self _ | omega⟩
          · as_aux_lemma =>
            rw [hc70]
            cbv
            obtain ⟨x161, h2, h1⟩ := bindS h1
            rcases condS h2 with ⟨hc71, h2⟩ | ⟨hc71, h2⟩
            · rw [hc71]
              cbv
              obtain ⟨hg72, h2⟩ := grdS h2
              refine ⟨inr_of hO hg72, ?_⟩
              obtain ⟨hg73, h2⟩ := grdS h2
              refine ⟨idx_of hO hg73, ?_⟩
              obtain ⟨hg74, h2⟩ := grdS h2
              refine ⟨kin_of hO hg74, ?_⟩
              cases h2
              try dsimp only at h1
              obtain ⟨l99, h2, h1⟩ := bindS h1
              rcases condS h2 with ⟨hc75, h2⟩ | ⟨hc75, h2⟩
              · rw [hc75]
                cbv
                obtain ⟨hg76, h2⟩ := grdS h2
                refine ⟨inr_of hO hg76, ?_⟩
                obtain ⟨hg77, h2⟩ := grdS h2
                refine ⟨idx_of hO hg77, ?_⟩
                obtain ⟨hg78, h2⟩ := grdS h2
                refine ⟨kin_of hO hg78, ?_⟩
                cases h2
                try dsimp only at h1
                refine ⟨inr_of hO hg1, ?_⟩
                cases h1
                exact ⟨_, [0, 1, 2, 3, 4], nextI hI3 hi3, by cbv; try simp, by first | exact Nat.lt_succ_self _ | omega⟩
              · rw [hc75]
                cbv
                obtain ⟨hg79, h2⟩ := grdS h2
                refine ⟨room_of hO hg79, ?_⟩
                obtain ⟨hg80, h2⟩ := grdS h2
                refine ⟨room_of hO hg80, ?_⟩
                cases h2
                try dsimp only at h1
                refine ⟨inr_of hO hg1, ?_⟩
                cases h1
                exact ⟨_, [0, 1, 2, 3, 6], nextI hI3 hi3, by cbv; try simp, by first | exact Nat.lt_succ_self _ | omega⟩
            · rw [hc71]
              cbv
              cases h2
              try dsimp only at h1
              obtain ⟨l99, h2, h1⟩ := bindS h1
              replace h2 := condF h2 rfl
              obtain ⟨hg81, h2⟩ := grdS h2
              refine ⟨room_of hO hg81, ?_⟩
              obtain ⟨hg82, h2⟩ := grdS h2
              refine ⟨room_of hO hg82, ?_⟩
              cases h2
              try dsimp only at h1
              refine ⟨inr_of hO hg1, ?_⟩
              cases h1
              exact ⟨_, [0, 1, 2, 3, 6], nextI hI3 hi3, by cbv; try simp, by first | exact Nat.lt_succ_self _ | omega⟩
  · rw [hc2]
    cbv
    cases h1
    cases exitI hi3
    try dsimp only at h0
    cases h0
    exact fin_ok hX rfl ⟨[4], _, _, ⟨rfl, rfl⟩, rfl, rfl, rfl, rfl, by cbv; try simp⟩
set_option maxHeartbeats 40000000 in
theorem fn_ref13_rotated {O0 : Ops} (hO0 : O0 = std) {period_1 : Int} {n_1 : Int} {l_1 : List (Int × Int)} {e : ((Unit) ⊕ (List (Int × Int)))} (h : m_ref13_rotated O0 period_1 n_1 l_1 = some e) :
    Fn Try.prog 52 [.c (.sl 0), .c (.int .i64 period_1), .c (.int .i64 n_1)] [.arr false .i2 l_1] (fun v c => match e with | .inl _ => v = .c (.sl 0) ∧ c = [] | .inr (r1) => v = .c (.sl 1) ∧ c = [.own 29 .i2 r1]) := by
  refine fn_run tab_holds eqs_holds mixed [(8, (.seg 1 [0, 1, 2, 3, 4, 5, 6, 7, 8, 9, 10, 11, 12, 13, 14, 15] .fin), [])] Try.func52 (by kernel_rfl) (by kernel_rfl) (Nat.le_of_ble_eq_true rfl) ?_
  intro O X hO hX
  rw [hO0, ← hO] at h
  unfold m_ref13_rotated at h
  have h0 := h; clear h
  cbv
  obtain ⟨n40, hv, h0⟩ := bindS h0
  refine call_is hO hX (fn_ref01_Mod hO hv) (by kernel_rfl) [] rfl trivial rfl ?_
  cbv
  rcases condS h0 with ⟨hc1, h0⟩ | ⟨hc1, h0⟩
  · rw [hc1]
    cbv
    cases h0
    exact fin_ok hX rfl ⟨[], _, _, ⟨rfl, rfl⟩, rfl, rfl, rfl, rfl, by cbv; try simp⟩
  · as_aux_lemma =>
    rw [hc1]
    cbv
    obtain ⟨⟨l82, l83⟩, hi, h0⟩ := bindS h0
    obtain ⟨I1, hI1, hi⟩ := loopS hi
    refine loop1 tab_holds eqs_holds mixed [(8, (.seg 1 [0, 1, 2, 3, 4, 5, 6, 7, 8, 9, 10, 11, 12, 13, 14, 15] .fin), [])] hO hX I1 (fun y => [(6, .junk), (8, .c (.sl 2)), (9, .c (.sl 3)), (10, .c (.int .i64 y.2.1))]) (fun y => [(2, .own 29 .i2 y.2.2.1), (3, .own 29 .i2 y.2.2.2)]) (fun y => y.1) _ (by kernel_rfl) hi (by cbv; try simp) ?_
    refine allp ?_
    intro n1
    refine allp ?_
    intro i10
    refine allp ?_
    intro l76
    intro l77 hi
    cbv
    rw [hI1] at hi
    obtain ⟨n1, rfl, x1, h1, hi1⟩ := iterS hi
    unfold m_ref13_rotated_L1 at h1
    try dsimp only at h1
    rcases condS h1 with ⟨hc2, h1⟩ | ⟨hc2, h1⟩
    · as_aux_lemma =>
      rw [hc2]
      cbv
      obtain ⟨hg3, h1⟩ := grdS h1
      refine ⟨idx_of hO hg3, ?_⟩
      obtain ⟨hg4, h1⟩ := grdS h1
      refine ⟨kin_of hO hg4, ?_⟩
      obtain ⟨hg5, h1⟩ := grdS h1
      refine ⟨inr_of hO hg5, ?_⟩
      refine ⟨idx_of hO hg3, ?_⟩
      refine ⟨kin_of hO hg4, ?_⟩
      obtain ⟨hg6, h1⟩ := grdS h1
      refine ⟨inr_of hO hg6, ?_⟩
      obtain ⟨l79, h2, h1⟩ := bindS h1
      rcases condS h2 with ⟨hc7, h2⟩ | ⟨hc7, h2⟩
      · rw [hc7]
        cbv
        obtain ⟨hg8, h2⟩ := grdS h2
        refine ⟨room_of hO hg8, ?_⟩
        obtain ⟨hg9, h2⟩ := grdS h2
        refine ⟨room_of hO hg9, ?_⟩
        cases h2
        try dsimp only at h1
        obtain ⟨l81, h2, h1⟩ := bindS h1
        rcases condS h2 with ⟨hc10, h2⟩ | ⟨hc10, h2⟩
        · rw [hc10]
          cbv
          obtain ⟨hg11, h2⟩ := grdS h2
          refine ⟨inr_of hO hg11, ?_⟩
          obtain ⟨hg12, h2⟩ := grdS h2
          refine ⟨inr_of hO hg12, ?_⟩
          obtain ⟨hg13, h2⟩ := grdS h2
          refine ⟨room_of hO hg13, ?_⟩
          obtain ⟨hg14, h2⟩ := grdS h2
          refine ⟨room_of hO hg14, ?_⟩
          cases h2
          try dsimp only at h1
          obtain ⟨hg15, h1⟩ := grdS h1
          refine ⟨inr_of hO hg15, ?_⟩
          cases h1
          exact ⟨_, [0, 1, 7, 5], nextI hI1 hi1, by cbv; try simp, by first | exact Nat.lt_succ_self _ | omega⟩
        · rw [hc10]
          cbv
          cases h2
          try dsimp only at h1
          obtain ⟨hg16, h1⟩ := grdS h1
          refine ⟨inr_of hO hg16, ?_⟩
          cases h1
          exact ⟨_, [0, 1, 2, 5], nextI hI1 hi1, by cbv; try simp, by first | exact Nat.lt_succ_self _ | omega⟩
      · rw [hc7]
        cbv
        cases h2
        try dsimp only at h1
        obtain ⟨l81, h2, h1⟩ := bindS h1
        rcases condS h2 with ⟨hc17, h2⟩ | ⟨hc17, h2⟩
        · rw [hc17]
          cbv
          obtain ⟨hg18, h2⟩ := grdS h2
          refine ⟨inr_of hO hg18, ?_⟩
          obtain ⟨hg19, h2⟩ := grdS h2
          refine ⟨inr_of hO hg19, ?_⟩
          obtain ⟨hg20, h2⟩ := grdS h2
          refine ⟨room_of hO hg20, ?_⟩
          obtain ⟨hg21, h2⟩ := grdS h2
          refine ⟨room_of hO hg21, ?_⟩
          cases h2
          try dsimp only at h1
          obtain ⟨hg22, h1⟩ := grdS h1
          refine ⟨inr_of hO hg22, ?_⟩
          cases h1
          exact ⟨_, [0, 1, 5, 3], nextI hI1 hi1, by cbv; try simp, by first | exact Nat.lt_succ_self _ | omega⟩
        · rw [hc17]
          cbv
          cases h2
          try dsimp only at h1
          obtain ⟨hg23, h1⟩ := grdS h1
          refine ⟨inr_of hO hg23, ?_⟩
          cases h1
          exact ⟨_, [0, 1, 2, 3], nextI hI1 hi1, by cbv; try simp, by first | exact Nat.lt_succ_self _ | omega⟩
    · rw [hc2]
      cbv
      cases h1
      cases exitI hi1
      try dsimp only at h0
      obtain ⟨l101, hv, h0⟩ := bindS h0
      refine call_is hO hX (fn_ref13_Lists hO hv) (by kernel_rfl) [2, 3] rfl ⟨rfl, rfl, rfl, rfl, trivial⟩ rfl ?_
      cbv
      cases h0
      exact fin_ok hX rfl ⟨[4], _, _, ⟨rfl, rfl⟩, rfl, rfl, rfl, rfl, by cbv; try simp⟩
end Go.Proofs.Ytlpbdikmhngmfaa
