/-
  The code does what its models say (printed by lift.py).
-/
import Derived.Test.YtkdffpncpikdmaaRM
import Derived.Test.YtkdffpncpikdmaaSrtR
import Derived.Test.YtkdffpncpikdmaaRW0
import Derived.Test.YtkdffpncpikdmaaRW1
namespace Go.Proofs.Ytkdffpncpikdmaa
open Go.RowKit
set_option maxRecDepth 100000

set_option maxHeartbeats 40000000 in
theorem fn_runs_combine {O0 : Ops} (hO0 : O0 = std) {a_1 : List (Int × Int)} {b_1 : List (Int × Int)} {r1 : List (Int × Int)} {r2 : Int} (h : m_runs_combine O0 a_1 b_1 = some (r1, r2)) :
    Fn Try.prog 65 [.c (.sl 0), .c (.sl 1), .c (.fn 66 [])] [.arr false .i2 a_1, .arr false .i2 b_1] (fun v c => v = .tup [.one (.sl 2), .one (.int .i64 r2)] ∧ c = [.own 32 .i2 r1]) := by
  refine fn_run tab_holds eqs_holds mixed [] Try.func65 (by kernel_rfl) (by kernel_rfl) (Nat.le_of_ble_eq_true rfl) ?_
  intro O X hO hX
  rw [hO0, ← hO] at h
  unfold m_runs_combine at h
  have h0 := h; clear h
  cbv
  obtain ⟨x36, h1, h0⟩ := bindS h0
  obtain ⟨b13, hv, h1⟩ := bindS h1
  refine call_is hO hX (fn_runs_Valid hO hv) (by kernel_rfl) [0] rfl ⟨rfl, rfl, trivial⟩ rfl ?_
  cbv
  rcases condS h1 with ⟨hc1, h1⟩ | ⟨hc1, h1⟩
  · rw [hc1]
    cbv
    cases h1
    try dsimp only at h0
    replace h0 := condT h0 rfl
    cases h0
    exact fin_ok hX rfl ⟨[3], _, _, ⟨rfl, rfl⟩, rfl, rfl, rfl, rfl, by cbv; try simp⟩
  · as_aux_lemma =>
    rw [hc1]
    cbv
    obtain ⟨b14, hv, h1⟩ := bindS h1
    refine call_is hO hX (fn_runs_Valid hO hv) (by kernel_rfl) [1] rfl ⟨rfl, rfl, trivial⟩ rfl ?_
    cbv
    cases h1
    try dsimp only at h0
    rcases condS h0 with ⟨hc2, h0⟩ | ⟨hc2, h0⟩
    · rw [hc2]
      cbv
      cases h0
      exact fin_ok hX rfl ⟨[3], _, _, ⟨rfl, rfl⟩, rfl, rfl, rfl, rfl, by cbv; try simp⟩
    · as_aux_lemma =>
      rw [hc2]
      cbv
      obtain ⟨l32, hi, h0⟩ := bindS h0
      obtain ⟨I1, hI1, hi⟩ := loopS hi
      refine loop1 tab_holds eqs_holds mixed [] hO hX I1 (fun y => [(6, .junk), (8, .c (.sl 3)), (9, .c (.int .i64 y.2.1)), (10, .c (.int .i64 y.2.2.1)), (12, .c (.bool y.2.2.2.1)), (13, .c (.int .i64 y.2.2.2.2.1))]) (fun y => [(3, .own 32 .i2 y.2.2.2.2.2)]) (fun y => y.1) _ (by kernel_rfl) hi (by cbv; try simp) ?_
      refine allp ?_
      intro n1
      refine allp ?_
      intro i5
      refine allp ?_
      intro k4
      refine allp ?_
      intro inside2
      refine allp ?_
      intro from2
      intro l29 hi
      cbv
      rw [hI1] at hi
      obtain ⟨n1, rfl, x1, h1, hi1⟩ := iterS hi
      unfold m_runs_combine_L1 at h1
      try dsimp only at h1
      obtain ⟨x42, h2, h1⟩ := bindS h1
      rcases condS h2 with ⟨hc3, h2⟩ | ⟨hc3, h2⟩
      · as_aux_lemma =>
        rw [hc3]
        cbv
        obtain ⟨hg4, h2⟩ := grdS h2
        refine ⟨inr_of hO hg4, ?_⟩
        cases h2
        try dsimp only at h1
        replace h1 := condT h1 rfl
        obtain ⟨n19, hv, h1⟩ := bindS h1
        refine call_is hO hX (fn_runs_combine_1 hO hv) (by kernel_rfl) [0] rfl ⟨rfl, rfl, trivial⟩ rfl ?_
        cbv
        obtain ⟨n20, hv, h1⟩ := bindS h1
        refine call_is hO hX (fn_runs_combine_1 hO hv) (by kernel_rfl) [1] rfl ⟨rfl, rfl, trivial⟩ rfl ?_
        cbv
        obtain ⟨n21, hv, h1⟩ := bindS h1
        refine call_is hO hX (fn_runs_combine_1 hO hv) (by kernel_rfl) [0] rfl ⟨rfl, rfl, trivial⟩ rfl ?_
        cbv
        obtain ⟨i7, h2, h1⟩ := bindS h1
        rcases condS h2 with ⟨hc5, h2⟩ | ⟨hc5, h2⟩
        · as_aux_lemma =>
          rw [hc5]
          cbv
          obtain ⟨hg6, h2⟩ := grdS h2
          refine ⟨inr_of hO hg6, ?_⟩
          cases h2
          try dsimp only at h1
          obtain ⟨n22, hv, h1⟩ := bindS h1
          refine call_is hO hX (fn_runs_combine_1 hO hv) (by kernel_rfl) [1] rfl ⟨rfl, rfl, trivial⟩ rfl ?_
          cbv
          obtain ⟨k6, h2, h1⟩ := bindS h1
          rcases condS h2 with ⟨hc7, h2⟩ | ⟨hc7, h2⟩
          · rw [hc7]
            cbv
            obtain ⟨hg8, h2⟩ := grdS h2
            refine ⟨inr_of hO hg8, ?_⟩
            cases h2
            try dsimp only at h1
            obtain ⟨hg9, h1⟩ := grdS h1
            refine ⟨nz_of hO hg9, ?_⟩
            refine ⟨nz_of hO hg9, ?_⟩
            obtain ⟨b16, hv, h1⟩ := bindS h1
            refine call_is hO hX (fn_runs_Union_1 hO hv) (by kernel_rfl) [] rfl trivial rfl ?_
            cbv
            rcases condS h1 with ⟨hc10, h1⟩ | ⟨hc10, h1⟩
            · rw [hc10]
              cbv
              cases h1
              exact ⟨_, [0, 1, 2, 3], nextI hI1 hi1, by cbv; try simp, by first | exact Nat.lt_succ_self _ | omega⟩
            · rw [hc10]
              cbv
              obtain ⟨l31, h2, h1⟩ := bindS h1
              rcases condS h2 with ⟨hc11, h2⟩ | ⟨hc11, h2⟩
              · rw [hc11]
                cbv
                obtain ⟨hg12, h2⟩ := grdS h2
                refine ⟨room_of hO hg12, ?_⟩
                obtain ⟨hg13, h2⟩ := grdS h2
                refine ⟨room_of hO hg13, ?_⟩
                cases h2
                try dsimp only at h1
                cases h1
                exact ⟨_, [0, 1, 2, 5], nextI hI1 hi1, by cbv; try simp, by first | exact Nat.lt_succ_self _ | omega⟩
              · rw [hc11]
                cbv
                cases h2
                try dsimp only at h1
                cases h1
                exact ⟨_, [0, 1, 2, 3], nextI hI1 hi1, by cbv; try simp, by first | exact Nat.lt_succ_self _ | omega⟩
          · rw [hc7]
            cbv
            cases h2
            try dsimp only at h1
            obtain ⟨hg14, h1⟩ := grdS h1
            refine ⟨nz_of hO hg14, ?_⟩
            refine ⟨nz_of hO hg14, ?_⟩
            obtain ⟨b16, hv, h1⟩ := bindS h1
            refine call_is hO hX (fn_runs_Union_1 hO hv) (by kernel_rfl) [] rfl trivial rfl ?_
            cbv
            rcases condS h1 with ⟨hc15, h1⟩ | ⟨hc15, h1⟩
            · rw [hc15]
              cbv
              cases h1
              exact ⟨_, [0, 1, 2, 3], nextI hI1 hi1, by cbv; try simp, by first | exact Nat.lt_succ_self _ | omega⟩
            · rw [hc15]
              cbv
              obtain ⟨l31, h2, h1⟩ := bindS h1
              rcases condS h2 with ⟨hc16, h2⟩ | ⟨hc16, h2⟩
              · rw [hc16]
                cbv
                obtain ⟨hg17, h2⟩ := grdS h2
                refine ⟨room_of hO hg17, ?_⟩
                obtain ⟨hg18, h2⟩ := grdS h2
                refine ⟨room_of hO hg18, ?_⟩
                cases h2
                try dsimp only at h1
                cases h1
                exact ⟨_, [0, 1, 2, 5], nextI hI1 hi1, by cbv; try simp, by first | exact Nat.lt_succ_self _ | omega⟩
              · rw [hc16]
                cbv
                cases h2
                try dsimp only at h1
                cases h1
                exact ⟨_, [0, 1, 2, 3], nextI hI1 hi1, by cbv; try simp, by first | exact Nat.lt_succ_self _ | omega⟩
        · as_aux_lemma =>
          rw [hc5]
          cbv
          cases h2
          try dsimp only at h1
          obtain ⟨n22, hv, h1⟩ := bindS h1
          refine call_is hO hX (fn_runs_combine_1 hO hv) (by kernel_rfl) [1] rfl ⟨rfl, rfl, trivial⟩ rfl ?_
          cbv
          obtain ⟨k6, h2, h1⟩ := bindS h1
          rcases condS h2 with ⟨hc19, h2⟩ | ⟨hc19, h2⟩
          · rw [hc19]
            cbv
            obtain ⟨hg20, h2⟩ := grdS h2
            refine ⟨inr_of hO hg20, ?_⟩
            cases h2
            try dsimp only at h1
            obtain ⟨hg21, h1⟩ := grdS h1
            refine ⟨nz_of hO hg21, ?_⟩
            refine ⟨nz_of hO hg21, ?_⟩
            obtain ⟨b16, hv, h1⟩ := bindS h1
            refine call_is hO hX (fn_runs_Union_1 hO hv) (by kernel_rfl) [] rfl trivial rfl ?_
            cbv
            rcases condS h1 with ⟨hc22, h1⟩ | ⟨hc22, h1⟩
            · rw [hc22]
              cbv
              cases h1
              exact ⟨_, [0, 1, 2, 3], nextI hI1 hi1, by cbv; try simp, by first | exact Nat.lt_succ_self _ | omega⟩
            · rw [hc22]
              cbv
              obtain ⟨l31, h2, h1⟩ := bindS h1
              rcases condS h2 with ⟨hc23, h2⟩ | ⟨hc23, h2⟩
              · rw [hc23]
                cbv
                obtain ⟨hg24, h2⟩ := grdS h2
                refine ⟨room_of hO hg24, ?_⟩
                obtain ⟨hg25, h2⟩ := grdS h2
                refine ⟨room_of hO hg25, ?_⟩
                cases h2
                try dsimp only at h1
                cases h1
                exact ⟨_, [0, 1, 2, 5], nextI hI1 hi1, by cbv; try simp, by first | exact Nat.lt_succ_self _ | omega⟩
              · rw [hc23]
                cbv
                cases h2
                try dsimp only at h1
                cases h1
                exact ⟨_, [0, 1, 2, 3], nextI hI1 hi1, by cbv; try simp, by first | exact Nat.lt_succ_self _ | omega⟩
          · rw [hc19]
            cbv
            cases h2
            try dsimp only at h1
            obtain ⟨hg26, h1⟩ := grdS h1
            refine ⟨nz_of hO hg26, ?_⟩
            refine ⟨nz_of hO hg26, ?_⟩
            obtain ⟨b16, hv, h1⟩ := bindS h1
            refine call_is hO hX (fn_runs_Union_1 hO hv) (by kernel_rfl) [] rfl trivial rfl ?_
            cbv
            rcases condS h1 with ⟨hc27, h1⟩ | ⟨hc27, h1⟩
            · rw [hc27]
              cbv
              cases h1
              exact ⟨_, [0, 1, 2, 3], nextI hI1 hi1, by cbv; try simp, by first | exact Nat.lt_succ_self _ | omega⟩
            · rw [hc27]
              cbv
              obtain ⟨l31, h2, h1⟩ := bindS h1
              rcases condS h2 with ⟨hc28, h2⟩ | ⟨hc28, h2⟩
              · rw [hc28]
                cbv
                obtain ⟨hg29, h2⟩ := grdS h2
                refine ⟨room_of hO hg29, ?_⟩
                obtain ⟨hg30, h2⟩ := grdS h2
                refine ⟨room_of hO hg30, ?_⟩
                cases h2
                try dsimp only at h1
                cases h1
                exact ⟨_, [0, 1, 2, 5], nextI hI1 hi1, by cbv; try simp, by first | exact Nat.lt_succ_self _ | omega⟩
              · rw [hc28]
                cbv
                cases h2
                try dsimp only at h1
                cases h1
                exact ⟨_, [0, 1, 2, 3], nextI hI1 hi1, by cbv; try simp, by first | exact Nat.lt_succ_self _ | omega⟩
      · as_aux_lemma =>
        rw [hc3]
        cbv
        obtain ⟨hg31, h2⟩ := grdS h2
        refine ⟨inr_of hO hg31, ?_⟩
        obtain ⟨hg32, h2⟩ := grdS h2
        refine ⟨inr_of hO hg32, ?_⟩
        cases h2
        try dsimp only at h1
        rcases condS h1 with ⟨hc33, h1⟩ | ⟨hc33, h1⟩
        · as_aux_lemma =>
          rw [hc33]
          cbv
          obtain ⟨n19, hv, h1⟩ := bindS h1
          refine call_is hO hX (fn_runs_combine_1 hO hv) (by kernel_rfl) [0] rfl ⟨rfl, rfl, trivial⟩ rfl ?_
          cbv
          obtain ⟨n20, hv, h1⟩ := bindS h1
          refine call_is hO hX (fn_runs_combine_1 hO hv) (by kernel_rfl) [1] rfl ⟨rfl, rfl, trivial⟩ rfl ?_
          cbv
          obtain ⟨n21, hv, h1⟩ := bindS h1
          refine call_is hO hX (fn_runs_combine_1 hO hv) (by kernel_rfl) [0] rfl ⟨rfl, rfl, trivial⟩ rfl ?_
          cbv
          obtain ⟨i7, h2, h1⟩ := bindS h1
          rcases condS h2 with ⟨hc34, h2⟩ | ⟨hc34, h2⟩
          · as_aux_lemma =>
            rw [hc34]
            cbv
            obtain ⟨hg35, h2⟩ := grdS h2
            refine ⟨inr_of hO hg35, ?_⟩
            cases h2
            try dsimp only at h1
            obtain ⟨n22, hv, h1⟩ := bindS h1
            refine call_is hO hX (fn_runs_combine_1 hO hv) (by kernel_rfl) [1] rfl ⟨rfl, rfl, trivial⟩ rfl ?_
            cbv
            obtain ⟨k6, h2, h1⟩ := bindS h1
            rcases condS h2 with ⟨hc36, h2⟩ | ⟨hc36, h2⟩
            · rw [hc36]
              cbv
              obtain ⟨hg37, h2⟩ := grdS h2
              refine ⟨inr_of hO hg37, ?_⟩
              cases h2
              try dsimp only at h1
              obtain ⟨hg38, h1⟩ := grdS h1
              refine ⟨nz_of hO hg38, ?_⟩
              refine ⟨nz_of hO hg38, ?_⟩
              obtain ⟨b16, hv, h1⟩ := bindS h1
              refine call_is hO hX (fn_runs_Union_1 hO hv) (by kernel_rfl) [] rfl trivial rfl ?_
              cbv
              rcases condS h1 with ⟨hc39, h1⟩ | ⟨hc39, h1⟩
              · rw [hc39]
                cbv
                cases h1
                exact ⟨_, [0, 1, 2, 3], nextI hI1 hi1, by cbv; try simp, by first | exact Nat.lt_succ_self _ | omega⟩
              · rw [hc39]
                cbv
                obtain ⟨l31, h2, h1⟩ := bindS h1
                rcases condS h2 with ⟨hc40, h2⟩ | ⟨hc40, h2⟩
                · rw [hc40]
                  cbv
                  obtain ⟨hg41, h2⟩ := grdS h2
                  refine ⟨room_of hO hg41, ?_⟩
                  obtain ⟨hg42, h2⟩ := grdS h2
                  refine ⟨room_of hO hg42, ?_⟩
                  cases h2
                  try dsimp only at h1
                  cases h1
                  exact ⟨_, [0, 1, 2, 5], nextI hI1 hi1, by cbv; try simp, by first | exact Nat.lt_succ_self _ | omega⟩
                · rw [hc40]
                  cbv
                  cases h2
                  try dsimp only at h1
                  cases h1
                  exact ⟨_, [0, 1, 2, 3], nextI hI1 hi1, by cbv; try simp, by first | exact Nat.lt_succ_self _ | omega⟩
            · rw [hc36]
              cbv
              cases h2
              try dsimp only at h1
              obtain ⟨hg43, h1⟩ := grdS h1
              refine ⟨nz_of hO hg43, ?_⟩
              refine ⟨nz_of hO hg43, ?_⟩
              obtain ⟨b16, hv, h1⟩ := bindS h1
              refine call_is hO hX (fn_runs_Union_1 hO hv) (by kernel_rfl) [] rfl trivial rfl ?_
              cbv
              rcases condS h1 with ⟨hc44, h1⟩ | ⟨hc44, h1⟩
              · rw [hc44]
                cbv
                cases h1
                exact ⟨_, [0, 1, 2, 3], nextI hI1 hi1, by cbv; try simp, by first | exact Nat.lt_succ_self _ | omega⟩
              · rw [hc44]
                cbv
                obtain ⟨l31, h2, h1⟩ := bindS h1
                rcases condS h2 with ⟨hc45, h2⟩ | ⟨hc45, h2⟩
                · rw [hc45]
                  cbv
                  obtain ⟨hg46, h2⟩ := grdS h2
                  refine ⟨room_of hO hg46, ?_⟩
                  obtain ⟨hg47, h2⟩ := grdS h2
                  refine ⟨room_of hO hg47, ?_⟩
                  cases h2
                  try dsimp only at h1
                  cases h1
                  exact ⟨_, [0, 1, 2, 5], nextI hI1 hi1, by cbv; try simp, by first | exact Nat.lt_succ_self _ | omega⟩
                · rw [hc45]
                  cbv
                  cases h2
                  try dsimp only at h1
                  cases h1
                  exact ⟨_, [0, 1, 2, 3], nextI hI1 hi1, by cbv; try simp, by first | exact Nat.lt_succ_self _ | omega⟩
          · as_aux_lemma =>
            rw [hc34]
            cbv
            cases h2
            try dsimp only at h1
            obtain ⟨n22, hv, h1⟩ := bindS h1
            refine call_is hO hX (fn_runs_combine_1 hO hv) (by kernel_rfl) [1] rfl ⟨rfl, rfl, trivial⟩ rfl ?_
            cbv
            obtain ⟨k6, h2, h1⟩ := bindS h1
            rcases condS h2 with ⟨hc48, h2⟩ | ⟨hc48, h2⟩
            · rw [hc48]
              cbv
              obtain ⟨hg49, h2⟩ := grdS h2
              refine ⟨inr_of hO hg49, ?_⟩
              cases h2
              try dsimp only at h1
              obtain ⟨hg50, h1⟩ := grdS h1
              refine ⟨nz_of hO hg50, ?_⟩
              refine ⟨nz_of hO hg50, ?_⟩
              obtain ⟨b16, hv, h1⟩ := bindS h1
              refine call_is hO hX (fn_runs_Union_1 hO hv) (by kernel_rfl) [] rfl trivial rfl ?_
              cbv
              rcases condS h1 with ⟨hc51, h1⟩ | ⟨hc51, h1⟩
              · rw [hc51]
                cbv
                cases h1
                exact ⟨_, [0, 1, 2, 3], nextI hI1 hi1, by cbv; try simp, by first | exact Nat.lt_succ_self _ | omega⟩
              · rw [hc51]
                cbv
                obtain ⟨l31, h2, h1⟩ := bindS h1
                rcases condS h2 with ⟨hc52, h2⟩ | ⟨hc52, h2⟩
                · rw [hc52]
                  cbv
                  obtain ⟨hg53, h2⟩ := grdS h2
                  refine ⟨room_of hO hg53, ?_⟩
                  obtain ⟨hg54, h2⟩ := grdS h2
                  refine ⟨room_of hO hg54, ?_⟩
                  cases h2
                  try dsimp only at h1
                  cases h1
                  exact ⟨_, [0, 1, 2, 5], nextI hI1 hi1, by cbv; try simp, by first | exact Nat.lt_succ_self _ | omega⟩
                · rw [hc52]
                  cbv
                  cases h2
                  try dsimp only at h1
                  cases h1
                  exact ⟨_, [0, 1, 2, 3], nextI hI1 hi1, by cbv; try simp, by first | exact Nat.lt_succ_self _ | omega⟩
            · rw [hc48]
              cbv
              cases h2
              try dsimp only at h1
              obtain ⟨hg55, h1⟩ := grdS h1
              refine ⟨nz_of hO hg55, ?_⟩
              refine ⟨nz_of hO hg55, ?_⟩
              obtain ⟨b16, hv, h1⟩ := bindS h1
              refine call_is hO hX (fn_runs_Union_1 hO hv) (by kernel_rfl) [] rfl trivial rfl ?_
              cbv
              rcases condS h1 with ⟨hc56, h1⟩ | ⟨hc56, h1⟩
              · rw [hc56]
                cbv
                cases h1
                exact ⟨_, [0, 1, 2, 3], nextI hI1 hi1, by cbv; try simp, by first | exact Nat.lt_succ_self _ | omega⟩
              · rw [hc56]
                cbv
                obtain ⟨l31, h2, h1⟩ := bindS h1
                rcases condS h2 with ⟨hc57, h2⟩ | ⟨hc57, h2⟩
                · rw [hc57]
                  cbv
                  obtain ⟨hg58, h2⟩ := grdS h2
                  refine ⟨room_of hO hg58, ?_⟩
                  obtain ⟨hg59, h2⟩ := grdS h2
                  refine ⟨room_of hO hg59, ?_⟩
                  cases h2
                  try dsimp only at h1
                  cases h1
                  exact ⟨_, [0, 1, 2, 5], nextI hI1 hi1, by cbv; try simp, by first | exact Nat.lt_succ_self _ | omega⟩
                · rw [hc57]
                  cbv
                  cases h2
                  try dsimp only at h1
                  cases h1
                  exact ⟨_, [0, 1, 2, 3], nextI hI1 hi1, by cbv; try simp, by first | exact Nat.lt_succ_self _ | omega⟩
        · rw [hc33]
          cbv
          cases h1
          cases exitI hi1
          try dsimp only at h0
          obtain ⟨⟨x44, l35⟩, h1, h0⟩ := bindS h0
          obtain ⟨e1, hv, h1⟩ := bindS h1
          rcases e1 with ⟨l33, n23⟩ | n24
          · try dsimp only at h1
            refine call_is hO hX (fn_runs_done hO hv) (by kernel_rfl) [3] rfl ⟨rfl, rfl, trivial⟩ rfl ?_
            cbv
            cases h1
            try dsimp only at h0
            cases h0
            exact fin_ok hX rfl ⟨[4], _, _, ⟨rfl, rfl⟩, rfl, rfl, rfl, rfl, by cbv; try simp⟩
          · try dsimp only at h1
            refine call_is hO hX (fn_runs_done hO hv) (by kernel_rfl) [3] rfl ⟨rfl, rfl, trivial⟩ rfl ?_
            cbv
            cases h1
            try dsimp only at h0
            cases h0
            exact fin_ok hX rfl ⟨[3], _, _, ⟨rfl, rfl⟩, rfl, rfl, rfl, rfl, by cbv; try simp⟩
set_option maxHeartbeats 40000000 in
theorem fn_runs_Union {O0 : Ops} (hO0 : O0 = std) {a_1 : List (Int × Int)} {b_1 : List (Int × Int)} {r1 : List (Int × Int)} {r2 : Int} (h : m_runs_Union O0 a_1 b_1 = some (r1, r2)) :
    Fn Try.prog 42 [.c (.sl 0), .c (.sl 1)] [.arr false .i2 a_1, .arr false .i2 b_1] (fun v c => v = .tup [.one (.sl 2), .one (.int .i64 r2)] ∧ c = [.own 32 .i2 r1]) := by
  refine fn_run tab_holds eqs_holds mixed [] Try.func42 (by kernel_rfl) (by kernel_rfl) (Nat.le_of_ble_eq_true rfl) ?_
  intro O X hO hX
  rw [hO0, ← hO] at h
  unfold m_runs_Union at h
  have h0 := h; clear h
  cbv
  obtain ⟨⟨l36, n25⟩, hv, h0⟩ := bindS h0
  try dsimp only at h0
  refine call_is hO hX (fn_runs_combine hO hv) (by kernel_rfl) [0, 1] rfl ⟨rfl, rfl, rfl, rfl, trivial⟩ rfl ?_
  cbv
  cases h0
  exact fin_ok hX rfl ⟨[3], _, _, ⟨rfl, rfl⟩, rfl, rfl, rfl, rfl, by cbv; try simp⟩
set_option maxHeartbeats 40000000 in
theorem fn_slices_Equal {O0 : Ops} (hO0 : O0 = std) {s1_1 : List (Int × Int)} {s2_1 : List (Int × Int)} {r1 : Bool} (h : m_slices_Equal O0 s1_1 s2_1 = some r1) :
    Fn Try.prog 23 [.c (.sl 0), .c (.sl 1)] [.arr false .i2 s1_1, .arr false .i2 s2_1] (fun v c => v = .c (.bool r1) ∧ c = []) := by
  refine fn_run tab_holds eqs_holds mixed [(6, (.seg 1 [0, 1, 2, 3, 4, 5, 6, 7, 8] .fin), [])] Try.func23 (by kernel_rfl) (by kernel_rfl) (Nat.le_of_ble_eq_true rfl) ?_
  intro O X hO hX
  rw [hO0, ← hO] at h
  unfold m_slices_Equal at h
  have h0 := h; clear h
  cbv
  rcases condS h0 with ⟨hc1, h0⟩ | ⟨hc1, h0⟩
  · rw [hc1]
    cbv
    cases h0
    exact fin_ok hX rfl ⟨[], _, _, ⟨rfl, rfl⟩, rfl, rfl, rfl, rfl, by cbv; try simp⟩
  · as_aux_lemma =>
    rw [hc1]
    cbv
    obtain ⟨e1, hi, h0⟩ := bindS h0
    obtain ⟨I1, hI1, hi⟩ := loopS hi
    refine loop1 tab_holds eqs_holds mixed [(6, (.seg 1 [0, 1, 2, 3, 4, 5, 6, 7, 8] .fin), [])] hO hX I1 (fun y => [(13, .c (.int .i64 y.2))]) (fun _ => []) (fun y => y.1) _ (by kernel_rfl) hi (by cbv; try simp) ?_
    refine allp ?_
    intro n1
    intro x45 hi
    cbv
    rw [hI1] at hi
    obtain ⟨n1, rfl, x1, h1, hi1⟩ := iterS hi
    unfold m_slices_Equal_L1 at h1
    try dsimp only at h1
    rcases condS h1 with ⟨hc2, h1⟩ | ⟨hc2, h1⟩
    · rw [hc2]
      cbv
      obtain ⟨hg3, h1⟩ := grdS h1
      refine ⟨idx_of hO hg3, ?_⟩
      obtain ⟨hg4, h1⟩ := grdS h1
      refine ⟨kin_of hO hg4, ?_⟩
      obtain ⟨hg5, h1⟩ := grdS h1
      refine ⟨idx_of hO hg5, ?_⟩
      obtain ⟨hg6, h1⟩ := grdS h1
      refine ⟨kin_of hO hg6, ?_⟩
      rcases condS h1 with ⟨hc7, h1⟩ | ⟨hc7, h1⟩
      · rw [hc7]
        cbv
        cases h1
        cases exitI hi1
        try dsimp only at h0
        cases h0
        exact fin_ok hX rfl ⟨[], _, _, ⟨rfl, rfl⟩, rfl, rfl, rfl, rfl, by cbv; try simp⟩
      · rw [hc7]
        cbv
        obtain ⟨hg8, h1⟩ := grdS h1
        refine ⟨inr_of hO hg8, ?_⟩
        cases h1
        exact ⟨_, [0, 1], nextI hI1 hi1, by cbv; try simp, by first | exact Nat.lt_succ_self _ | omega⟩
    · rw [hc2]
      cbv
      cases h1
      cases exitI hi1
      try dsimp only at h0
      cases h0
      exact fin_ok hX rfl ⟨[], _, _, ⟨rfl, rfl⟩, rfl, rfl, rfl, rfl, by cbv; try simp⟩
end Go.Proofs.Ytkdffpncpikdmaa
