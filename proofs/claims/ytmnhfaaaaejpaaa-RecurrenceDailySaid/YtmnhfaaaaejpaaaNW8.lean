/-
  The code does what its models say (printed by lift.py).
-/
import Derived.Test.YtmnhfaaaaejpaaaNM
import Derived.Test.YtmnhfaaaaejpaaaNNoW
import Derived.Test.YtmnhfaaaaejpaaaNW6
namespace Go.Proofs.Ytmnhfaaaaejpaaa
open Go.RowKit
set_option maxRecDepth 100000

set_option maxHeartbeats 40000000 in
theorem fn_law29_RecurrenceDaily {O0 : Ops} (hO0 : O0 = std) {n_1 : Int} {start_1 : Int} {k_1 : Int} {off_1 : Int} {r1 : Bool} (h : m_law29_RecurrenceDaily O0 n_1 start_1 k_1 off_1 = some r1) :
    Fn Try.prog 4 [.c (.int .u8 n_1), .c (.int .i64 start_1), .c (.int .i64 k_1), .c (.int .i16 off_1)] [] (fun v c => v = .c (.bool r1) ∧ c = []) := by
  refine fn_run tab_holds eqs_holds mixed [] Try.func4 (by kernel_rfl) (by kernel_rfl) (Nat.le_of_ble_eq_true rfl) ?_
  intro O X hO hX
  rw [hO0, ← hO] at h
  unfold m_law29_RecurrenceDaily at h
  have h0 := h; clear h
  cbv
  obtain ⟨x150, h1, h0⟩ := bindS h0
  obtain ⟨b39, hv, h1⟩ := bindS h1
  refine call_is hO hX (fn_law29_awake hO hv) (by kernel_rfl) [] rfl trivial rfl ?_
  cbv
  rcases condS h1 with ⟨hc1, h1⟩ | ⟨hc1, h1⟩
  · rw [hc1]
    cbv
    cases h1
    try dsimp only at h0
    replace h0 := condT h0 rfl
    obtain ⟨b40, hv, h0⟩ := bindS h0
    refine call_is hO hX (fn_law29_awake hO hv) (by kernel_rfl) [] rfl trivial rfl ?_
    cbv
    cases h0
    exact fin_ok hX rfl ⟨[], _, _, ⟨rfl, rfl⟩, rfl, rfl, rfl, rfl, by cbv; try simp⟩
  · as_aux_lemma =>
    rw [hc1]
    cbv
    rcases condS h1 with ⟨hc2, h1⟩ | ⟨hc2, h1⟩
    · rw [hc2]
      cbv
      cases h1
      try dsimp only at h0
      replace h0 := condT h0 rfl
      obtain ⟨b40, hv, h0⟩ := bindS h0
      refine call_is hO hX (fn_law29_awake hO hv) (by kernel_rfl) [] rfl trivial rfl ?_
      cbv
      cases h0
      exact fin_ok hX rfl ⟨[], _, _, ⟨rfl, rfl⟩, rfl, rfl, rfl, rfl, by cbv; try simp⟩
    · as_aux_lemma =>
      rw [hc2]
      cbv
      cases h1
      try dsimp only at h0
      rcases condS h0 with ⟨hc3, h0⟩ | ⟨hc3, h0⟩
      · rw [hc3]
        cbv
        obtain ⟨b40, hv, h0⟩ := bindS h0
        refine call_is hO hX (fn_law29_awake hO hv) (by kernel_rfl) [] rfl trivial rfl ?_
        cbv
        cases h0
        exact fin_ok hX rfl ⟨[], _, _, ⟨rfl, rfl⟩, rfl, rfl, rfl, rfl, by cbv; try simp⟩
      · as_aux_lemma =>
        rw [hc3]
        cbv
        obtain ⟨hg4, h0⟩ := grdS h0
        refine ⟨inr_of hO hg4, ?_⟩
        obtain ⟨hg5, h0⟩ := grdS h0
        refine ⟨nz_of hO hg5, ?_⟩
        obtain ⟨hg6, h0⟩ := grdS h0
        refine ⟨inr_of hO hg6, ?_⟩
        obtain ⟨x152, h1, h0⟩ := bindS h0
        rcases condS h1 with ⟨hc7, h1⟩ | ⟨hc7, h1⟩
        · rw [hc7]
          cbv
          cases h1
          try dsimp only at h0
          replace h0 := condT h0 rfl
          cases h0
          exact fin_ok hX rfl ⟨[], _, _, ⟨rfl, rfl⟩, rfl, rfl, rfl, rfl, by cbv; try simp⟩
        · as_aux_lemma =>
          rw [hc7]
          cbv
          cases h1
          try dsimp only at h0
          rcases condS h0 with ⟨hc8, h0⟩ | ⟨hc8, h0⟩
          · rw [hc8]
            cbv
            cases h0
            exact fin_ok hX rfl ⟨[], _, _, ⟨rfl, rfl⟩, rfl, rfl, rfl, rfl, by cbv; try simp⟩
          · as_aux_lemma =>
            rw [hc8]
            cbv
            obtain ⟨hg9, h0⟩ := grdS h0
            refine ⟨inr_of hO hg9, ?_⟩
            obtain ⟨hg10, h0⟩ := grdS h0
            refine ⟨inr_of hO hg10, ?_⟩
            obtain ⟨hg11, h0⟩ := grdS h0
            refine ⟨inr_of hO hg11, ?_⟩
            obtain ⟨hg12, h0⟩ := grdS h0
            refine ⟨inr_of hO hg12, ?_⟩
            refine call_nil hO hX .i1 1 rfl ?_
            cbv
            refine call_nil hO hX .i1 2 rfl ?_
            cbv
            refine call_nil hO hX .i1 3 rfl ?_
            cbv
            refine call_nil hO hX .i1 4 rfl ?_
            cbv
            refine call_nil hO hX .i2 5 rfl ?_
            cbv
            refine call_nil hO hX .i1 6 rfl ?_
            cbv
            refine call_nil hO hX .i1 7 rfl ?_
            cbv
            refine call_nil hO hX .i1 8 rfl ?_
            cbv
            refine call_nil hO hX .i1 9 rfl ?_
            cbv
            obtain ⟨⟨b41, n81⟩, hv, h0⟩ := bindS h0
            try dsimp only at h0
            refine call_is hO hX (fn_recurrence_Matches hO hv) (by kernel_rfl) [1, 2, 3, 4, 5, 6, 7, 8, 9] rfl ⟨rfl, rfl, rfl, rfl, rfl, rfl, rfl, rfl, rfl, rfl, rfl, rfl, rfl, rfl, rfl, rfl, rfl, rfl, trivial⟩ rfl ?_
            cbv
            obtain ⟨x154, h1, h0⟩ := bindS h0
            rcases condS h1 with ⟨hc13, h1⟩ | ⟨hc13, h1⟩
            · rw [hc13]
              cbv
              cases h1
              try dsimp only at h0
              replace h0 := condT h0 rfl
              obtain ⟨x156, h1, h0⟩ := bindS h0
              rcases condS h1 with ⟨hc14, h1⟩ | ⟨hc14, h1⟩
              · rw [hc14]
                cbv
                cases h1
                try dsimp only at h0
                cases h0
                exact fin_ok hX rfl ⟨[], _, _, ⟨rfl, rfl⟩, rfl, rfl, rfl, rfl, by cbv; try simp⟩
              · rw [hc14]
                cbv
                cases h1
                try dsimp only at h0
                cases h0
                exact fin_ok hX rfl ⟨[], _, _, ⟨rfl, rfl⟩, rfl, rfl, rfl, rfl, by cbv; try simp⟩
            · as_aux_lemma =>
              rw [hc13]
              cbv
              cases h1
              try dsimp only at h0
              rcases condS h0 with ⟨hc15, h0⟩ | ⟨hc15, h0⟩
              · rw [hc15]
                cbv
                obtain ⟨x156, h1, h0⟩ := bindS h0
                rcases condS h1 with ⟨hc16, h1⟩ | ⟨hc16, h1⟩
                · rw [hc16]
                  cbv
                  cases h1
                  try dsimp only at h0
                  cases h0
                  exact fin_ok hX rfl ⟨[], _, _, ⟨rfl, rfl⟩, rfl, rfl, rfl, rfl, by cbv; try simp⟩
                · rw [hc16]
                  cbv
                  cases h1
                  try dsimp only at h0
                  cases h0
                  exact fin_ok hX rfl ⟨[], _, _, ⟨rfl, rfl⟩, rfl, rfl, rfl, rfl, by cbv; try simp⟩
              · rw [hc15]
                cbv
                obtain ⟨x160, h1, h0⟩ := bindS h0
                rcases condS h1 with ⟨hc17, h1⟩ | ⟨hc17, h1⟩
                · rw [hc17]
                  cbv
                  rcases condS h1 with ⟨hc18, h1⟩ | ⟨hc18, h1⟩
                  · rw [hc18]
                    cbv
                    rcases condS h1 with ⟨hc19, h1⟩ | ⟨hc19, h1⟩
                    · rw [hc19]
                      cbv
                      obtain ⟨hg20, h1⟩ := grdS h1
                      refine ⟨nz_of hO hg20, ?_⟩
                      cases h1
                      try dsimp only at h0
                      cases h0
                      exact fin_ok hX rfl ⟨[], _, _, ⟨rfl, rfl⟩, rfl, rfl, rfl, rfl, by cbv; try simp⟩
                    · rw [hc19]
                      cbv
                      cases h1
                      try dsimp only at h0
                      cases h0
                      exact fin_ok hX rfl ⟨[], _, _, ⟨rfl, rfl⟩, rfl, rfl, rfl, rfl, by cbv; try simp⟩
                  · rw [hc18]
                    cbv
                    cases h1
                    try dsimp only at h0
                    cases h0
                    exact fin_ok hX rfl ⟨[], _, _, ⟨rfl, rfl⟩, rfl, rfl, rfl, rfl, by cbv; try simp⟩
                · rw [hc17]
                  cbv
                  cases h1
                  try dsimp only at h0
                  cases h0
                  exact fin_ok hX rfl ⟨[], _, _, ⟨rfl, rfl⟩, rfl, rfl, rfl, rfl, by cbv; try simp⟩
end Go.Proofs.Ytmnhfaaaaejpaaa
