/-
  The code does what its models say (printed by lift.py).
-/
import Derived.Test.YtmnhfaaaaejpaaaNM
import Derived.Test.YtmnhfaaaaejpaaaNNoW
import Derived.Test.YtmnhfaaaaejpaaaNW13
namespace Go.Proofs.Ytmnhfaaaaejpaaa
open Go.RowKit
set_option maxRecDepth 100000

set_option maxHeartbeats 40000000 in
theorem fn_ref05_Gregorian {O0 : Ops} (hO0 : O0 = std) {d_1 : Int} {d_2 : Int} {d_3 : Int} {r1 : Int} {r2 : Bool} (h : m_ref05_Gregorian O0 d_1 d_2 d_3 = some (r1, r2)) :
    Fn Try.prog 76 [.agg [.int .i64 d_1, .int .i64 d_2, .int .i64 d_3]] [] (fun v c => v = .tup [.one (.int .i64 r1), .one (.bool r2)] ∧ c = []) := by
  refine fn_run tab_holds eqs_holds mixed [] Try.func76 (by kernel_rfl) (by kernel_rfl) (Nat.le_of_ble_eq_true rfl) ?_
  intro O X hO hX
  rw [hO0, ← hO] at h
  unfold m_ref05_Gregorian at h
  have h0 := h; clear h
  cbv
  obtain ⟨n123, hv, h0⟩ := bindS h0
  refine call_is hO hX (fn_ref05_Length hO hv) (by kernel_rfl) [] rfl trivial rfl ?_
  cbv
  obtain ⟨x225, h1, h0⟩ := bindS h0
  rcases condS h1 with ⟨hc1, h1⟩ | ⟨hc1, h1⟩
  · as_aux_lemma =>
    rw [hc1]
    cbv
    obtain ⟨b65, hv, h1⟩ := bindS h1
    refine call_is hO hX (fn_ref05_leap hO hv) (by kernel_rfl) [] rfl trivial rfl ?_
    cbv
    rcases condS h1 with ⟨hc2, h1⟩ | ⟨hc2, h1⟩
    · as_aux_lemma =>
      rw [hc2]
      cbv
      cases h1
      try dsimp only at h0
      obtain ⟨long2, h1, h0⟩ := bindS h0
      rcases condS h1 with ⟨hc3, h1⟩ | ⟨hc3, h1⟩
      · as_aux_lemma =>
        rw [hc3]
        cbv
        cases h1
        try dsimp only at h0
        obtain ⟨x227, h1, h0⟩ := bindS h0
        rcases condS h1 with ⟨hc4, h1⟩ | ⟨hc4, h1⟩
        · rw [hc4]
          cbv
          cases h1
          try dsimp only at h0
          replace h0 := condT h0 rfl
          cases h0
          exact fin_ok hX rfl ⟨[], _, _, ⟨rfl, rfl⟩, rfl, rfl, rfl, rfl, by cbv; try simp⟩
        · as_aux_lemma =>
          rw [hc4]
          cbv
          cases h1
          try dsimp only at h0
          rcases condS h0 with ⟨hc5, h0⟩ | ⟨hc5, h0⟩
          · rw [hc5]
            cbv
            cases h0
            exact fin_ok hX rfl ⟨[], _, _, ⟨rfl, rfl⟩, rfl, rfl, rfl, rfl, by cbv; try simp⟩
          · as_aux_lemma =>
            rw [hc5]
            cbv
            obtain ⟨hg6, h0⟩ := grdS h0
            refine ⟨inr_of hO hg6, ?_⟩
            obtain ⟨hg7, h0⟩ := grdS h0
            refine ⟨inr_of hO hg7, ?_⟩
            obtain ⟨hg8, h0⟩ := grdS h0
            refine ⟨inr_of hO hg8, ?_⟩
            obtain ⟨hg9, h0⟩ := grdS h0
            refine ⟨nz_of hO hg9, ?_⟩
            obtain ⟨hg10, h0⟩ := grdS h0
            refine ⟨inr_of hO hg10, ?_⟩
            obtain ⟨hg11, h0⟩ := grdS h0
            refine ⟨inr_of hO hg11, ?_⟩
            obtain ⟨hg12, h0⟩ := grdS h0
            refine ⟨nz_of hO hg12, ?_⟩
            obtain ⟨hg13, h0⟩ := grdS h0
            refine ⟨inr_of hO hg13, ?_⟩
            obtain ⟨hg14, h0⟩ := grdS h0
            refine ⟨inr_of hO hg14, ?_⟩
            obtain ⟨hg15, h0⟩ := grdS h0
            refine ⟨nz_of hO hg15, ?_⟩
            obtain ⟨hg16, h0⟩ := grdS h0
            refine ⟨inr_of hO hg16, ?_⟩
            obtain ⟨hg17, h0⟩ := grdS h0
            refine ⟨inr_of hO hg17, ?_⟩
            obtain ⟨n126, hi, h0⟩ := bindS h0
            obtain ⟨I1, hI1, hi⟩ := loopS hi
            refine loop1 tab_holds eqs_holds mixed [] hO hX I1 (fun y => [(8, .junk), (10, .junk), (13, .junk), (17, .junk), (26, .junk), (30, .junk), (35, .junk), (6, .c (.int .i64 y.2.1)), (7, .c (.int .i64 y.2.2))]) (fun _ => []) (fun y => y.1) _ (by kernel_rfl) hi (by cbv; try simp) ?_
            refine allp ?_
            intro n1
            refine allp ?_
            intro n124
            intro m5 hi
            cbv
            rw [hI1] at hi
            obtain ⟨n1, rfl, x1, h1, hi1⟩ := iterS hi
            unfold m_ref05_Gregorian_L1 at h1
            try dsimp only at h1
            rcases condS h1 with ⟨hc18, h1⟩ | ⟨hc18, h1⟩
            · rw [hc18]
              cbv
              obtain ⟨n125, hv, h1⟩ := bindS h1
              refine call_is hO hX (fn_ref05_Length hO hv) (by kernel_rfl) [] rfl trivial rfl ?_
              cbv
              obtain ⟨hg19, h1⟩ := grdS h1
              refine ⟨inr_of hO hg19, ?_⟩
              obtain ⟨hg20, h1⟩ := grdS h1
              refine ⟨inr_of hO hg20, ?_⟩
              cases h1
              exact ⟨_, [0], nextI hI1 hi1, by cbv; try simp, by first | exact Nat.lt_succ_self _ | omega⟩
            · as_aux_lemma =>
              rw [hc18]
              cbv
              cases h1
              cases exitI hi1
              try dsimp only at h0
              obtain ⟨x233, h1, h0⟩ := bindS h0
              rcases condS h1 with ⟨hc21, h1⟩ | ⟨hc21, h1⟩
              · as_aux_lemma =>
                rw [hc21]
                cbv
                obtain ⟨b66, hv, h1⟩ := bindS h1
                refine call_is hO hX (fn_ref05_Leap hO hv) (by kernel_rfl) [] rfl trivial rfl ?_
                cbv
                rcases condS h1 with ⟨hc22, h1⟩ | ⟨hc22, h1⟩
                · rw [hc22]
                  cbv
                  obtain ⟨b67, hv, h1⟩ := bindS h1
                  refine call_is hO hX (fn_ref05_leap hO hv) (by kernel_rfl) [] rfl trivial rfl ?_
                  cbv
                  cases h1
                  try dsimp only at h0
                  obtain ⟨n128, h1, h0⟩ := bindS h0
                  rcases condS h1 with ⟨hc23, h1⟩ | ⟨hc23, h1⟩
                  · rw [hc23]
                    cbv
                    obtain ⟨hg24, h1⟩ := grdS h1
                    refine ⟨inr_of hO hg24, ?_⟩
                    cases h1
                    try dsimp only at h0
                    obtain ⟨hg25, h0⟩ := grdS h0
                    refine ⟨inr_of hO hg25, ?_⟩
                    obtain ⟨hg26, h0⟩ := grdS h0
                    refine ⟨inr_of hO hg26, ?_⟩
                    cases h0
                    exact fin_ok hX rfl ⟨[], _, _, ⟨rfl, rfl⟩, rfl, rfl, rfl, rfl, by cbv; try simp⟩
                  · rw [hc23]
                    cbv
                    cases h1
                    try dsimp only at h0
                    obtain ⟨hg27, h0⟩ := grdS h0
                    refine ⟨inr_of hO hg27, ?_⟩
                    obtain ⟨hg28, h0⟩ := grdS h0
                    refine ⟨inr_of hO hg28, ?_⟩
                    cases h0
                    exact fin_ok hX rfl ⟨[], _, _, ⟨rfl, rfl⟩, rfl, rfl, rfl, rfl, by cbv; try simp⟩
                · rw [hc22]
                  cbv
                  cases h1
                  try dsimp only at h0
                  obtain ⟨n128, h1, h0⟩ := bindS h0
                  replace h1 := condF h1 rfl
                  cases h1
                  try dsimp only at h0
                  obtain ⟨hg29, h0⟩ := grdS h0
                  refine ⟨inr_of hO hg29, ?_⟩
                  obtain ⟨hg30, h0⟩ := grdS h0
                  refine ⟨inr_of hO hg30, ?_⟩
                  cases h0
                  exact fin_ok hX rfl ⟨[], _, _, ⟨rfl, rfl⟩, rfl, rfl, rfl, rfl, by cbv; try simp⟩
              · rw [hc21]
                cbv
                cases h1
                try dsimp only at h0
                obtain ⟨n128, h1, h0⟩ := bindS h0
                replace h1 := condF h1 rfl
                cases h1
                try dsimp only at h0
                obtain ⟨hg31, h0⟩ := grdS h0
                refine ⟨inr_of hO hg31, ?_⟩
                obtain ⟨hg32, h0⟩ := grdS h0
                refine ⟨inr_of hO hg32, ?_⟩
                cases h0
                exact fin_ok hX rfl ⟨[], _, _, ⟨rfl, rfl⟩, rfl, rfl, rfl, rfl, by cbv; try simp⟩
      · as_aux_lemma =>
        rw [hc3]
        cbv
        cases h1
        try dsimp only at h0
        obtain ⟨x227, h1, h0⟩ := bindS h0
        rcases condS h1 with ⟨hc33, h1⟩ | ⟨hc33, h1⟩
        · rw [hc33]
          cbv
          cases h1
          try dsimp only at h0
          replace h0 := condT h0 rfl
          cases h0
          exact fin_ok hX rfl ⟨[], _, _, ⟨rfl, rfl⟩, rfl, rfl, rfl, rfl, by cbv; try simp⟩
        · as_aux_lemma =>
          rw [hc33]
          cbv
          cases h1
          try dsimp only at h0
          rcases condS h0 with ⟨hc34, h0⟩ | ⟨hc34, h0⟩
          · rw [hc34]
            cbv
            cases h0
            exact fin_ok hX rfl ⟨[], _, _, ⟨rfl, rfl⟩, rfl, rfl, rfl, rfl, by cbv; try simp⟩
          · as_aux_lemma =>
            rw [hc34]
            cbv
            obtain ⟨hg35, h0⟩ := grdS h0
            refine ⟨inr_of hO hg35, ?_⟩
            obtain ⟨hg36, h0⟩ := grdS h0
            refine ⟨inr_of hO hg36, ?_⟩
            obtain ⟨hg37, h0⟩ := grdS h0
            refine ⟨inr_of hO hg37, ?_⟩
            obtain ⟨hg38, h0⟩ := grdS h0
            refine ⟨nz_of hO hg38, ?_⟩
            obtain ⟨hg39, h0⟩ := grdS h0
            refine ⟨inr_of hO hg39, ?_⟩
            obtain ⟨hg40, h0⟩ := grdS h0
            refine ⟨inr_of hO hg40, ?_⟩
            obtain ⟨hg41, h0⟩ := grdS h0
            refine ⟨nz_of hO hg41, ?_⟩
            obtain ⟨hg42, h0⟩ := grdS h0
            refine ⟨inr_of hO hg42, ?_⟩
            obtain ⟨hg43, h0⟩ := grdS h0
            refine ⟨inr_of hO hg43, ?_⟩
            obtain ⟨hg44, h0⟩ := grdS h0
            refine ⟨nz_of hO hg44, ?_⟩
            obtain ⟨hg45, h0⟩ := grdS h0
            refine ⟨inr_of hO hg45, ?_⟩
            obtain ⟨hg46, h0⟩ := grdS h0
            refine ⟨inr_of hO hg46, ?_⟩
            obtain ⟨n126, hi, h0⟩ := bindS h0
            obtain ⟨I1, hI1, hi⟩ := loopS hi
            refine loop1 tab_holds eqs_holds mixed [] hO hX I1 (fun y => [(8, .junk), (10, .junk), (13, .junk), (17, .junk), (26, .junk), (30, .junk), (35, .junk), (6, .c (.int .i64 y.2.1)), (7, .c (.int .i64 y.2.2))]) (fun _ => []) (fun y => y.1) _ (by kernel_rfl) hi (by cbv; try simp) ?_
            refine allp ?_
            intro n1
            refine allp ?_
            intro n124
            intro m5 hi
            cbv
            rw [hI1] at hi
            obtain ⟨n1, rfl, x1, h1, hi1⟩ := iterS hi
            unfold m_ref05_Gregorian_L1 at h1
            try dsimp only at h1
            rcases condS h1 with ⟨hc47, h1⟩ | ⟨hc47, h1⟩
            · rw [hc47]
              cbv
              obtain ⟨n125, hv, h1⟩ := bindS h1
              refine call_is hO hX (fn_ref05_Length hO hv) (by kernel_rfl) [] rfl trivial rfl ?_
              cbv
              obtain ⟨hg48, h1⟩ := grdS h1
              refine ⟨inr_of hO hg48, ?_⟩
              obtain ⟨hg49, h1⟩ := grdS h1
              refine ⟨inr_of hO hg49, ?_⟩
              cases h1
              exact ⟨_, [0], nextI hI1 hi1, by cbv; try simp, by first | exact Nat.lt_succ_self _ | omega⟩
            · as_aux_lemma =>
              rw [hc47]
              cbv
              cases h1
              cases exitI hi1
              try dsimp only at h0
              obtain ⟨x233, h1, h0⟩ := bindS h0
              rcases condS h1 with ⟨hc50, h1⟩ | ⟨hc50, h1⟩
              · as_aux_lemma =>
                rw [hc50]
                cbv
                obtain ⟨b66, hv, h1⟩ := bindS h1
                refine call_is hO hX (fn_ref05_Leap hO hv) (by kernel_rfl) [] rfl trivial rfl ?_
                cbv
                rcases condS h1 with ⟨hc51, h1⟩ | ⟨hc51, h1⟩
                · rw [hc51]
                  cbv
                  obtain ⟨b67, hv, h1⟩ := bindS h1
                  refine call_is hO hX (fn_ref05_leap hO hv) (by kernel_rfl) [] rfl trivial rfl ?_
                  cbv
                  cases h1
                  try dsimp only at h0
                  obtain ⟨n128, h1, h0⟩ := bindS h0
                  rcases condS h1 with ⟨hc52, h1⟩ | ⟨hc52, h1⟩
                  · rw [hc52]
                    cbv
                    obtain ⟨hg53, h1⟩ := grdS h1
                    refine ⟨inr_of hO hg53, ?_⟩
                    cases h1
                    try dsimp only at h0
                    obtain ⟨hg54, h0⟩ := grdS h0
                    refine ⟨inr_of hO hg54, ?_⟩
                    obtain ⟨hg55, h0⟩ := grdS h0
                    refine ⟨inr_of hO hg55, ?_⟩
                    cases h0
                    exact fin_ok hX rfl ⟨[], _, _, ⟨rfl, rfl⟩, rfl, rfl, rfl, rfl, by cbv; try simp⟩
                  · rw [hc52]
                    cbv
                    cases h1
                    try dsimp only at h0
                    obtain ⟨hg56, h0⟩ := grdS h0
                    refine ⟨inr_of hO hg56, ?_⟩
                    obtain ⟨hg57, h0⟩ := grdS h0
                    refine ⟨inr_of hO hg57, ?_⟩
                    cases h0
                    exact fin_ok hX rfl ⟨[], _, _, ⟨rfl, rfl⟩, rfl, rfl, rfl, rfl, by cbv; try simp⟩
                · rw [hc51]
                  cbv
                  cases h1
                  try dsimp only at h0
                  obtain ⟨n128, h1, h0⟩ := bindS h0
                  replace h1 := condF h1 rfl
                  cases h1
                  try dsimp only at h0
                  obtain ⟨hg58, h0⟩ := grdS h0
                  refine ⟨inr_of hO hg58, ?_⟩
                  obtain ⟨hg59, h0⟩ := grdS h0
                  refine ⟨inr_of hO hg59, ?_⟩
                  cases h0
                  exact fin_ok hX rfl ⟨[], _, _, ⟨rfl, rfl⟩, rfl, rfl, rfl, rfl, by cbv; try simp⟩
              · rw [hc50]
                cbv
                cases h1
                try dsimp only at h0
                obtain ⟨n128, h1, h0⟩ := bindS h0
                replace h1 := condF h1 rfl
                cases h1
                try dsimp only at h0
                obtain ⟨hg60, h0⟩ := grdS h0
                refine ⟨inr_of hO hg60, ?_⟩
                obtain ⟨hg61, h0⟩ := grdS h0
                refine ⟨inr_of hO hg61, ?_⟩
                cases h0
                exact fin_ok hX rfl ⟨[], _, _, ⟨rfl, rfl⟩, rfl, rfl, rfl, rfl, by cbv; try simp⟩
    · as_aux_lemma =>
      rw [hc2]
      cbv
      cases h1
      try dsimp only at h0
      obtain ⟨long2, h1, h0⟩ := bindS h0
      replace h1 := condF h1 rfl
      cases h1
      try dsimp only at h0
      obtain ⟨x227, h1, h0⟩ := bindS h0
      rcases condS h1 with ⟨hc62, h1⟩ | ⟨hc62, h1⟩
      · rw [hc62]
        cbv
        cases h1
        try dsimp only at h0
        replace h0 := condT h0 rfl
        cases h0
        exact fin_ok hX rfl ⟨[], _, _, ⟨rfl, rfl⟩, rfl, rfl, rfl, rfl, by cbv; try simp⟩
      · as_aux_lemma =>
        rw [hc62]
        cbv
        cases h1
        try dsimp only at h0
        rcases condS h0 with ⟨hc63, h0⟩ | ⟨hc63, h0⟩
        · rw [hc63]
          cbv
          cases h0
          exact fin_ok hX rfl ⟨[], _, _, ⟨rfl, rfl⟩, rfl, rfl, rfl, rfl, by cbv; try simp⟩
        · as_aux_lemma =>
          rw [hc63]
          cbv
          obtain ⟨hg64, h0⟩ := grdS h0
          refine ⟨inr_of hO hg64, ?_⟩
          obtain ⟨hg65, h0⟩ := grdS h0
          refine ⟨inr_of hO hg65, ?_⟩
          obtain ⟨hg66, h0⟩ := grdS h0
          refine ⟨inr_of hO hg66, ?_⟩
          obtain ⟨hg67, h0⟩ := grdS h0
          refine ⟨nz_of hO hg67, ?_⟩
          obtain ⟨hg68, h0⟩ := grdS h0
          refine ⟨inr_of hO hg68, ?_⟩
          obtain ⟨hg69, h0⟩ := grdS h0
          refine ⟨inr_of hO hg69, ?_⟩
          obtain ⟨hg70, h0⟩ := grdS h0
          refine ⟨nz_of hO hg70, ?_⟩
          obtain ⟨hg71, h0⟩ := grdS h0
          refine ⟨inr_of hO hg71, ?_⟩
          obtain ⟨hg72, h0⟩ := grdS h0
          refine ⟨inr_of hO hg72, ?_⟩
          obtain ⟨hg73, h0⟩ := grdS h0
          refine ⟨nz_of hO hg73, ?_⟩
          obtain ⟨hg74, h0⟩ := grdS h0
          refine ⟨inr_of hO hg74, ?_⟩
          obtain ⟨hg75, h0⟩ := grdS h0
          refine ⟨inr_of hO hg75, ?_⟩
          obtain ⟨n126, hi, h0⟩ := bindS h0
          obtain ⟨I1, hI1, hi⟩ := loopS hi
          refine loop1 tab_holds eqs_holds mixed [] hO hX I1 (fun y => [(8, .junk), (10, .junk), (13, .junk), (17, .junk), (26, .junk), (30, .junk), (35, .junk), (6, .c (.int .i64 y.2.1)), (7, .c (.int .i64 y.2.2))]) (fun _ => []) (fun y => y.1) _ (by kernel_rfl) hi (by cbv; try simp) ?_
          refine allp ?_
          intro n1
          refine allp ?_
          intro n124
          intro m5 hi
          cbv
          rw [hI1] at hi
          obtain ⟨n1, rfl, x1, h1, hi1⟩ := iterS hi
          unfold m_ref05_Gregorian_L1 at h1
          try dsimp only at h1
          rcases condS h1 with ⟨hc76, h1⟩ | ⟨hc76, h1⟩
          · rw [hc76]
            cbv
            obtain ⟨n125, hv, h1⟩ := bindS h1
            refine call_is hO hX (fn_ref05_Length hO hv) (by kernel_rfl) [] rfl trivial rfl ?_
            cbv
            obtain ⟨hg77, h1⟩ := grdS h1
            refine ⟨inr_of hO hg77, ?_⟩
            obtain ⟨hg78, h1⟩ := grdS h1
            refine ⟨inr_of hO hg78, ?_⟩
            cases h1
            exact ⟨_, [0], nextI hI1 hi1, by cbv; try simp, by first | exact Nat.lt_succ_self _ | omega⟩
          · as_aux_lemma =>
            rw [hc76]
            cbv
            cases h1
            cases exitI hi1
            try dsimp only at h0
            obtain ⟨x233, h1, h0⟩ := bindS h0
            rcases condS h1 with ⟨hc79, h1⟩ | ⟨hc79, h1⟩
            · as_aux_lemma =>
              rw [hc79]
              cbv
              obtain ⟨b66, hv, h1⟩ := bindS h1
              refine call_is hO hX (fn_ref05_Leap hO hv) (by kernel_rfl) [] rfl trivial rfl ?_
              cbv
              rcases condS h1 with ⟨hc80, h1⟩ | ⟨hc80, h1⟩
              · rw [hc80]
                cbv
                obtain ⟨b67, hv, h1⟩ := bindS h1
                refine call_is hO hX (fn_ref05_leap hO hv) (by kernel_rfl) [] rfl trivial rfl ?_
                cbv
                cases h1
                try dsimp only at h0
                obtain ⟨n128, h1, h0⟩ := bindS h0
                rcases condS h1 with ⟨hc81, h1⟩ | ⟨hc81, h1⟩
                · rw [hc81]
                  cbv
                  obtain ⟨hg82, h1⟩ := grdS h1
                  refine ⟨inr_of hO hg82, ?_⟩
                  cases h1
                  try dsimp only at h0
                  obtain ⟨hg83, h0⟩ := grdS h0
                  refine ⟨inr_of hO hg83, ?_⟩
                  obtain ⟨hg84, h0⟩ := grdS h0
                  refine ⟨inr_of hO hg84, ?_⟩
                  cases h0
                  exact fin_ok hX rfl ⟨[], _, _, ⟨rfl, rfl⟩, rfl, rfl, rfl, rfl, by cbv; try simp⟩
                · rw [hc81]
                  cbv
                  cases h1
                  try dsimp only at h0
                  obtain ⟨hg85, h0⟩ := grdS h0
                  refine ⟨inr_of hO hg85, ?_⟩
                  obtain ⟨hg86, h0⟩ := grdS h0
                  refine ⟨inr_of hO hg86, ?_⟩
                  cases h0
                  exact fin_ok hX rfl ⟨[], _, _, ⟨rfl, rfl⟩, rfl, rfl, rfl, rfl, by cbv; try simp⟩
              · rw [hc80]
                cbv
                cases h1
                try dsimp only at h0
                obtain ⟨n128, h1, h0⟩ := bindS h0
                replace h1 := condF h1 rfl
                cases h1
                try dsimp only at h0
                obtain ⟨hg87, h0⟩ := grdS h0
                refine ⟨inr_of hO hg87, ?_⟩
                obtain ⟨hg88, h0⟩ := grdS h0
                refine ⟨inr_of hO hg88, ?_⟩
                cases h0
                exact fin_ok hX rfl ⟨[], _, _, ⟨rfl, rfl⟩, rfl, rfl, rfl, rfl, by cbv; try simp⟩
            · rw [hc79]
              cbv
              cases h1
              try dsimp only at h0
              obtain ⟨n128, h1, h0⟩ := bindS h0
              replace h1 := condF h1 rfl
              cases h1
              try dsimp only at h0
              obtain ⟨hg89, h0⟩ := grdS h0
              refine ⟨inr_of hO hg89, ?_⟩
              obtain ⟨hg90, h0⟩ := grdS h0
              refine ⟨inr_of hO hg90, ?_⟩
              cases h0
              exact fin_ok hX rfl ⟨[], _, _, ⟨rfl, rfl⟩, rfl, rfl, rfl, rfl, by cbv; try simp⟩
  · as_aux_lemma =>
    rw [hc1]
    cbv
    cases h1
    try dsimp only at h0
    obtain ⟨long2, h1, h0⟩ := bindS h0
    replace h1 := condF h1 rfl
    cases h1
    try dsimp only at h0
    obtain ⟨x227, h1, h0⟩ := bindS h0
    rcases condS h1 with ⟨hc91, h1⟩ | ⟨hc91, h1⟩
    · rw [hc91]
      cbv
      cases h1
      try dsimp only at h0
      replace h0 := condT h0 rfl
      cases h0
      exact fin_ok hX rfl ⟨[], _, _, ⟨rfl, rfl⟩, rfl, rfl, rfl, rfl, by cbv; try simp⟩
    · as_aux_lemma =>
      rw [hc91]
      cbv
      cases h1
      try dsimp only at h0
      rcases condS h0 with ⟨hc92, h0⟩ | ⟨hc92, h0⟩
      · rw [hc92]
        cbv
        cases h0
        exact fin_ok hX rfl ⟨[], _, _, ⟨rfl, rfl⟩, rfl, rfl, rfl, rfl, by cbv; try simp⟩
      · as_aux_lemma =>
        rw [hc92]
        cbv
        obtain ⟨hg93, h0⟩ := grdS h0
        refine ⟨inr_of hO hg93, ?_⟩
        obtain ⟨hg94, h0⟩ := grdS h0
        refine ⟨inr_of hO hg94, ?_⟩
        obtain ⟨hg95, h0⟩ := grdS h0
        refine ⟨inr_of hO hg95, ?_⟩
        obtain ⟨hg96, h0⟩ := grdS h0
        refine ⟨nz_of hO hg96, ?_⟩
        obtain ⟨hg97, h0⟩ := grdS h0
        refine ⟨inr_of hO hg97, ?_⟩
        obtain ⟨hg98, h0⟩ := grdS h0
        refine ⟨inr_of hO hg98, ?_⟩
        obtain ⟨hg99, h0⟩ := grdS h0
        refine ⟨nz_of hO hg99, ?_⟩
        obtain ⟨hg100, h0⟩ := grdS h0
        refine ⟨inr_of hO hg100, ?_⟩
        obtain ⟨hg101, h0⟩ := grdS h0
        refine ⟨inr_of hO hg101, ?_⟩
        obtain ⟨hg102, h0⟩ := grdS h0
        refine ⟨nz_of hO hg102, ?_⟩
        obtain ⟨hg103, h0⟩ := grdS h0
        refine ⟨inr_of hO hg103, ?_⟩
        obtain ⟨hg104, h0⟩ := grdS h0
        refine ⟨inr_of hO hg104, ?_⟩
        obtain ⟨n126, hi, h0⟩ := bindS h0
        obtain ⟨I1, hI1, hi⟩ := loopS hi
        refine loop1 tab_holds eqs_holds mixed [] hO hX I1 (fun y => [(8, .junk), (10, .junk), (13, .junk), (26, .junk), (30, .junk), (35, .junk), (6, .c (.int .i64 y.2.1)), (7, .c (.int .i64 y.2.2))]) (fun _ => []) (fun y => y.1) _ (by kernel_rfl) hi (by cbv; try simp) ?_
        refine allp ?_
        intro n1
        refine allp ?_
        intro n124
        intro m5 hi
        cbv
        rw [hI1] at hi
        obtain ⟨n1, rfl, x1, h1, hi1⟩ := iterS hi
        unfold m_ref05_Gregorian_L1 at h1
        try dsimp only at h1
        rcases condS h1 with ⟨hc105, h1⟩ | ⟨hc105, h1⟩
        · rw [hc105]
          cbv
          obtain ⟨n125, hv, h1⟩ := bindS h1
          refine call_is hO hX (fn_ref05_Length hO hv) (by kernel_rfl) [] rfl trivial rfl ?_
          cbv
          obtain ⟨hg106, h1⟩ := grdS h1
          refine ⟨inr_of hO hg106, ?_⟩
          obtain ⟨hg107, h1⟩ := grdS h1
          refine ⟨inr_of hO hg107, ?_⟩
          cases h1
          exact ⟨_, [0], nextI hI1 hi1, by cbv; try simp, by first | exact Nat.lt_succ_self _ | omega⟩
        · as_aux_lemma =>
          rw [hc105]
          cbv
          cases h1
          cases exitI hi1
          try dsimp only at h0
          obtain ⟨x233, h1, h0⟩ := bindS h0
          rcases condS h1 with ⟨hc108, h1⟩ | ⟨hc108, h1⟩
          · as_aux_lemma =>
            rw [hc108]
            cbv
            obtain ⟨b66, hv, h1⟩ := bindS h1
            refine call_is hO hX (fn_ref05_Leap hO hv) (by kernel_rfl) [] rfl trivial rfl ?_
            cbv
            rcases condS h1 with ⟨hc109, h1⟩ | ⟨hc109, h1⟩
            · rw [hc109]
              cbv
              obtain ⟨b67, hv, h1⟩ := bindS h1
              refine call_is hO hX (fn_ref05_leap hO hv) (by kernel_rfl) [] rfl trivial rfl ?_
              cbv
              cases h1
              try dsimp only at h0
              obtain ⟨n128, h1, h0⟩ := bindS h0
              rcases condS h1 with ⟨hc110, h1⟩ | ⟨hc110, h1⟩
              · rw [hc110]
                cbv
                obtain ⟨hg111, h1⟩ := grdS h1
                refine ⟨inr_of hO hg111, ?_⟩
                cases h1
                try dsimp only at h0
                obtain ⟨hg112, h0⟩ := grdS h0
                refine ⟨inr_of hO hg112, ?_⟩
                obtain ⟨hg113, h0⟩ := grdS h0
                refine ⟨inr_of hO hg113, ?_⟩
                cases h0
                exact fin_ok hX rfl ⟨[], _, _, ⟨rfl, rfl⟩, rfl, rfl, rfl, rfl, by cbv; try simp⟩
              · rw [hc110]
                cbv
                cases h1
                try dsimp only at h0
                obtain ⟨hg114, h0⟩ := grdS h0
                refine ⟨inr_of hO hg114, ?_⟩
                obtain ⟨hg115, h0⟩ := grdS h0
                refine ⟨inr_of hO hg115, ?_⟩
                cases h0
                exact fin_ok hX rfl ⟨[], _, _, ⟨rfl, rfl⟩, rfl, rfl, rfl, rfl, by cbv; try simp⟩
            · rw [hc109]
              cbv
              cases h1
              try dsimp only at h0
              obtain ⟨n128, h1, h0⟩ := bindS h0
              replace h1 := condF h1 rfl
              cases h1
              try dsimp only at h0
              obtain ⟨hg116, h0⟩ := grdS h0
              refine ⟨inr_of hO hg116, ?_⟩
              obtain ⟨hg117, h0⟩ := grdS h0
              refine ⟨inr_of hO hg117, ?_⟩
              cases h0
              exact fin_ok hX rfl ⟨[], _, _, ⟨rfl, rfl⟩, rfl, rfl, rfl, rfl, by cbv; try simp⟩
          · rw [hc108]
            cbv
            cases h1
            try dsimp only at h0
            obtain ⟨n128, h1, h0⟩ := bindS h0
            replace h1 := condF h1 rfl
            cases h1
            try dsimp only at h0
            obtain ⟨hg118, h0⟩ := grdS h0
            refine ⟨inr_of hO hg118, ?_⟩
            obtain ⟨hg119, h0⟩ := grdS h0
            refine ⟨inr_of hO hg119, ?_⟩
            cases h0
            exact fin_ok hX rfl ⟨[], _, _, ⟨rfl, rfl⟩, rfl, rfl, rfl, rfl, by cbv; try simp⟩
set_option maxHeartbeats 40000000 in
theorem fn_ref05_first {O0 : Ops} (hO0 : O0 = std) {year_1 : Int} {r1 : Int} (h : m_ref05_first O0 year_1 = some r1) :
    Fn Try.prog 75 [.c (.int .i64 year_1)] [] (fun v c => v = .c (.int .i64 r1) ∧ c = []) := by
  refine fn_run tab_holds eqs_holds mixed [] Try.func75 (by kernel_rfl) (by kernel_rfl) (Nat.le_of_ble_eq_true rfl) ?_
  intro O X hO hX
  rw [hO0, ← hO] at h
  unfold m_ref05_first at h
  have h0 := h; clear h
  cbv
  obtain ⟨⟨n129, b68⟩, hv, h0⟩ := bindS h0
  try dsimp only at h0
  refine call_is hO hX (fn_ref05_Gregorian hO hv) (by kernel_rfl) [] rfl trivial rfl ?_
  cbv
  cases h0
  exact fin_ok hX rfl ⟨[], _, _, ⟨rfl, rfl⟩, rfl, rfl, rfl, rfl, by cbv; try simp⟩
end Go.Proofs.Ytmnhfaaaaejpaaa
