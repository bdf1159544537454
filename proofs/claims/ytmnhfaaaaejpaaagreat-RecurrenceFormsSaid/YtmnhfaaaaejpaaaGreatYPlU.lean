/-
  The code does what its models say (printed by lift.py).
  recurrence.place: one round of its range over the days.
  recurrence.place does what its model says: the range over the days.
  Words for a range over a function: what is no cells lies as it lay; results out of a state. No program here.
  recurrence.place does what its model says.
-/
import Derived.Test.YtmnhfaaaaejpaaaGreatYPlM
import Derived.Test.YtmnhfaaaaejpaaaGreatYW0
import Derived.Test.YtmnhfaaaaejpaaaGreatYW7
import Derived.Test.YtmnhfaaaaejpaaaGreatManWL
import Derived.Test.YtmnhfaaaaejpaaaGreatLift
import Derived.Test.YtmnhfaaaaejpaaaGreatManM2
import Derived.Test.YtmnhfaaaaejpaaaGreatYN3
import Derived.RangeFuncFrom
import Derived.RangeFuncBound
import Derived.RangeFuncCalls
namespace Go.Proofs.YtmnhfaaaaejpaaaGreat
open Go.RowKit
set_option maxRecDepth 100000

set_option maxHeartbeats 40000000 in
theorem fn_recurrence_days {O0 : Ops} (hO0 : O0 = std) {r_1 : Int} {r_2 : Int} {r_3 : Int} {r_4 : Int} {r_5 : Int} {l_1 : Int} {r_6 : List Int} {r_7 : List Int} {r_8 : List Int} {r_9 : List Int} {r_10 : List (Int × Int)} {r_11 : List Int} {r_12 : List Int} {r_13 : List Int} {r_14 : List Int} {r1 : Int} {r2 : Int} (h : m_recurrence_days O0 r_1 r_2 r_3 r_4 r_5 l_1 r_6 r_7 r_8 r_9 r_10 r_11 r_12 r_13 r_14 = some (r1, r2)) :
    Fn Tryz.prog 62 [.agg [.int .i64 r_1, .int .i64 r_2, .int .i64 r_3, .int .i64 r_4, .sl 0, .sl 1, .sl 2, .sl 3, .sl 4, .sl 5, .sl 6, .sl 7, .sl 8, .int .i64 r_5], .c (.int .i64 l_1)] [.arr false .i1 r_6, .arr false .i1 r_7, .arr false .i1 r_8, .arr false .i1 r_9, .arr false .i2 r_10, .arr false .i1 r_11, .arr false .i1 r_12, .arr false .i1 r_13, .arr false .i1 r_14] (fun v c => v = .c (.fn 88 [9, 10]) ∧ c = [.blk 3 [.int .i64 r1], .blk 3 [.int .i64 r2]]) := by
  refine fn_run tab_holds eqs_holds mixed [(6, (.seg 1 [0, 1, 2, 4, 5, 6, 7] (.seg 2 [3] (.seg 2 [8] .fin))), [9, 10])] Tryz.func62 (by kernel_rfl) (by kernel_rfl) (Nat.le_of_ble_eq_true rfl) ?_
  intro O X hO hX
  rw [hO0, ← hO] at h
  unfold m_recurrence_days at h
  have h0 := h; clear h
  cbv
  obtain ⟨n59, hv, h0⟩ := bindS h0
  refine call_is hO hX (fn_integer_Floor hO hv) (by kernel_rfl) [] rfl trivial rfl ?_
  cbv
  obtain ⟨⟨n60, n61, n62, n63, n64, n65, n66, n67⟩, hv, h0⟩ := bindS h0
  try dsimp only at h0
  refine call_is hO hX (fn_recurrence_dateOf hO hv) (by kernel_rfl) [] rfl trivial rfl ?_
  cbv
  obtain ⟨hg1, h0⟩ := grdS h0
  refine ⟨inr_of hO hg1, ?_⟩
  obtain ⟨x70, h1, h0⟩ := bindS h0
  rcases condS h1 with ⟨hc2, h1⟩ | ⟨hc2, h1⟩
  · rw [hc2]
    cbv
    cases h1
    try dsimp only at h0
    obtain ⟨⟨x85, x86⟩, h1, h0⟩ := bindS h0
    rcases condS h1 with ⟨hc3, h1⟩ | ⟨hc3, h1⟩
    · rw [hc3]
      cbv
      obtain ⟨n68, hv, h1⟩ := bindS h1
      refine call_is hO hX (fn_recurrence_weekYear hO hv) (by kernel_rfl) [] rfl trivial rfl ?_
      cbv
      obtain ⟨hg4, h1⟩ := grdS h1
      refine ⟨inr_of hO hg4, ?_⟩
      obtain ⟨n69, hv, h1⟩ := bindS h1
      refine call_is hO hX (fn_recurrence_firstWeek hO hv) (by kernel_rfl) [] rfl trivial rfl ?_
      cbv
      obtain ⟨n70, hv, h1⟩ := bindS h1
      refine call_is hO hX (fn_recurrence_firstWeek hO hv) (by kernel_rfl) [] rfl trivial rfl ?_
      cbv
      cases h1
      try dsimp only at h0
      cases h0
      exact fin_ok hX rfl ⟨[11, 12], _, _, ⟨rfl, rfl⟩, rfl, rfl, rfl, rfl, by cbv; try simp⟩
    · rw [hc3]
      cbv
      try (rw [hc2]; cbv)
      obtain ⟨⟨x81, x82⟩, h2, h1⟩ := bindS h1
      replace h2 := condT h2 hc2
      obtain ⟨hg5, h2⟩ := grdS h2
      refine ⟨inr_of hO hg5, ?_⟩
      obtain ⟨hg6, h2⟩ := grdS h2
      refine ⟨inr_of hO hg6, ?_⟩
      obtain ⟨hg7, h2⟩ := grdS h2
      refine ⟨inr_of hO hg7, ?_⟩
      cases h2
      try dsimp only at h1
      cases h1
      try dsimp only at h0
      cases h0
      exact fin_ok hX rfl ⟨[11, 12], _, _, ⟨rfl, rfl⟩, rfl, rfl, rfl, rfl, by cbv; try simp⟩
  · as_aux_lemma =>
    rw [hc2]
    cbv
    try (rw [hc2]; cbv)
    cases h1
    try dsimp only at h0
    obtain ⟨⟨x85, x86⟩, h1, h0⟩ := bindS h0
    replace h1 := condF h1 rfl
    obtain ⟨⟨x81, x82⟩, h2, h1⟩ := bindS h1
    replace h2 := condF h2 hc2
    obtain ⟨⟨x77, x78⟩, h3, h2⟩ := bindS h2
    rcases condS h3 with ⟨hc8, h3⟩ | ⟨hc8, h3⟩
    · rw [hc8]
      cbv
      obtain ⟨hg9, h3⟩ := grdS h3
      refine ⟨inr_of hO hg9, ?_⟩
      obtain ⟨hg10, h3⟩ := grdS h3
      refine ⟨inr_of hO hg10, ?_⟩
      obtain ⟨hg11, h3⟩ := grdS h3
      refine ⟨inr_of hO hg11, ?_⟩
      cases h3
      try dsimp only at h2
      cases h2
      try dsimp only at h1
      cases h1
      try dsimp only at h0
      cases h0
      exact fin_ok hX rfl ⟨[11, 12], _, _, ⟨rfl, rfl⟩, rfl, rfl, rfl, rfl, by cbv; try simp⟩
    · rw [hc8]
      cbv
      obtain ⟨⟨x73, x74⟩, h4, h3⟩ := bindS h3
      rcases condS h4 with ⟨hc12, h4⟩ | ⟨hc12, h4⟩
      · rw [hc12]
        cbv
        obtain ⟨n71, hv, h4⟩ := bindS h4
        refine call_is hO hX (fn_recurrence_week hO hv) (by kernel_rfl) [] rfl trivial rfl ?_
        cbv
        obtain ⟨hg13, h4⟩ := grdS h4
        refine ⟨inr_of hO hg13, ?_⟩
        cases h4
        try dsimp only at h3
        cases h3
        try dsimp only at h2
        cases h2
        try dsimp only at h1
        cases h1
        try dsimp only at h0
        cases h0
        exact fin_ok hX rfl ⟨[11, 12], _, _, ⟨rfl, rfl⟩, rfl, rfl, rfl, rfl, by cbv; try simp⟩
      · rw [hc12]
        cbv
        cases h4
        try dsimp only at h3
        cases h3
        try dsimp only at h2
        cases h2
        try dsimp only at h1
        cases h1
        try dsimp only at h0
        cases h0
        exact fin_ok hX rfl ⟨[11, 12], _, _, ⟨rfl, rfl⟩, rfl, rfl, rfl, rfl, by cbv; try simp⟩
end Go.Proofs.YtmnhfaaaaejpaaaGreat
namespace Go.Proofs.YtmnhfaaaaejpaaaGreat.R
open Go.RowKit Go.Proofs.YtmnhfaaaaejpaaaGreat
set_option maxRecDepth 100000

def findRF : Code → Option (Operand × Array Tmp × Code × Code)
  | .seq x y => match findRF x with
    | some r => some r
    | none => findRF y
  | .block _ b => findRF b
  | .rangeFunc g ps a b => some (g, ps, a, b)
  | _ => none
def rfBody (c : Code) : Code := match findRF c with
  | some (_, _, _, b) => b
  | none => .skip
/-- an end of the round that goes on -/
def endN (K : St → Prop) : Exit → St → Prop
  | .normal, s => K s
  | _, _ => False
def plPi : Pis := [(10, .seg 1 [0, 1, 2, 3, 4, 6] (.seg 2 [5] (.seg 2 [7] (.seg 1 [8, 9] .fin))), [])]
def plFr (x : Int) : List AV := [.junk, .junk, .junk, .c (.ptr 9 0), .junk, .c (.ptr 10 0), .c (.ptr 11 0), .c (.ptr 12 0), .c (.ptr 14 0), .c (.ptr 15 0), .c (.int .i64 x), .junk, .junk, .junk, .junk, .junk, .junk, .junk, .junk, .junk, .junk, .junk, .junk, .junk, .junk, .junk, .junk, .junk, .junk, .junk, .junk, .junk, .junk, .junk, .junk, .junk, .junk, .junk, .junk, .junk, .junk, .junk, .junk, .junk, .junk, .junk, .junk, .junk, .junk, .junk, .junk, .junk, .junk, .junk, .junk, .junk, .junk, .junk, .junk]
section
variable (ks : List (Nat × Obj)) (r_1 r_2 r_3 r_4 r_5 l_1 d1 d2 d3 d4 d5 d6 d7 d8 a b : Int) (r_6 r_7 r_8 r_9 : List Int) (r_10 : List (Int × Int)) (r_11 r_12 r_13 r_14 S : List Int)
def plCk (n of : Int) : List Ck := [.arr false .i1 r_6, .arr false .i1 r_7, .arr false .i1 r_8, .arr false .i1 r_9, .arr false .i2 r_10, .arr false .i1 r_11, .arr false .i1 r_12, .arr false .i1 r_13, .arr false .i1 r_14,
  .blk 25 [.int .i64 r_1, .int .i64 r_2, .int .i64 r_3, .int .i64 r_4, .sl 0, .sl 1, .sl 2, .sl 3, .sl 4, .sl 5, .sl 6, .sl 7, .sl 8, .int .i64 r_5], .blk 3 [.int .i64 l_1], .blk 3 [.int .i64 n], .blk 3 [.int .i64 of], .own 3 .i1 S, .blk 22 [.sl 13],
  .blk 61 [.int .i64 d1, .int .i64 d2, .int .i64 d3, .int .i64 d4, .int .i64 d5, .int .i64 d6, .int .i64 d7, .int .i64 d8], .blk 3 [.int .i64 a], .blk 3 [.int .i64 b], .keep ks]
end

abbrev In64 (x : Int) : Prop := -9223372036854775808 ≤ x ∧ x ≤ 9223372036854775807
theorem cnt_step {n n' : Int} {c : Nat} (h : n' = n + (c : Int)) : n' + 1 = n + ((c + 1 : Nat) : Int) ∧ n' = n + ((c + 0 : Nat) : Int) := by omega
theorem cnt_bd {n n' : Int} {c i L : Nat} (h : n' = n + (c : Int)) (hn : 0 ≤ n ∧ n ≤ 9000000000000000) (hc : c ≤ min i L) (hL : L ≤ 1000000) : In64 (n' + 1) := by unfold In64; omega
theorem x_bd {x s : Int} (hx : -719162 ≤ x ∧ x < 2932897) (hs : 0 ≤ s ∧ s < 86400) : In64 (x * 86400) ∧ In64 (x * 86400 + s) := by unfold In64; omega
theorem i_bd {x31 : Int} {i L : Nat} (h : x31 = (i : Int)) (hi : i < L) (hL : L ≤ 1000000) : In64 (x31 + 1) := by unfold In64; omega
theorem l_bd {l : Int} (h : -9000000000000000 ≤ l ∧ l ≤ 9000000000000000) : In64 l := by unfold In64; omega
theorem mu_lt {i L : Nat} (h : i < L) : L - (i + 1) < L - i := by omega
theorem okI_of {x : Int} (h : In64 x) : okI .i64 x = true := by rw [okI64]; exact decide_eq_true h

set_option maxHeartbeats 40000000 in
theorem place_body {O : Ops} {X : Cx} (hO : O = std) {R : AV → List Ck → Prop} (hX : Good Tryz.prog 19 R X) {r_1 r_2 r_3 r_4 r_5 l_1 d1 d2 d3 d4 d5 d6 d7 d8 a b x n of : Int} {r_6 r_7 r_8 r_9 : List Int} {r_10 : List (Int × Int)} {r_11 r_12 r_13 r_14 S : List Int} {pb : Bool} {ks : List (Nat × Obj)}
    (hp : m_recurrence_passes O r_1 r_2 r_3 r_4 r_5 d1 d2 d3 d4 d5 d6 d7 d8 x r_6 r_7 r_8 r_9 r_10 r_11 r_12 r_13 r_14 = some pb) (hx : -719162 ≤ x ∧ x < 2932897) (hl : -9000000000000000 ≤ l_1 ∧ l_1 ≤ 9000000000000000) (hS : S.length ≤ 1000000) (hs : ∀ s ∈ S, 0 ≤ s ∧ s < 86400)
    (hn : 0 ≤ n ∧ n ≤ 9000000000000000) (hof : 0 ≤ of ∧ of ≤ 9000000000000000) {n2 of2 : Int} (e1 : n2 = n + ((if pb = true then cN r_1 l_1 x S else 0 : Nat) : Int)) (e2 : of2 = of + ((if pb = true then cO r_1 l_1 x S else 0 : Nat) : Int)) :
    awp O X tab plPi (rfBody (bodyOf Tryz.f43)) ⟨plFr x, plCk ks r_1 r_2 r_3 r_4 r_5 l_1 d1 d2 d3 d4 d5 d6 d7 d8 a b r_6 r_7 r_8 r_9 r_10 r_11 r_12 r_13 r_14 S n of⟩
      (endN fun s' => ∃ m, wkAll 19 m s' ⟨[], plCk ks r_1 r_2 r_3 r_4 r_5 l_1 d1 d2 d3 d4 d5 d6 d7 d8 a b r_6 r_7 r_8 r_9 r_10 r_11 r_12 r_13 r_14 S n2 of2⟩) := by
  cbv
  refine call_is hO hX (fn_recurrence_passes hO hp) (by kernel_rfl) [0, 1, 2, 3, 4, 5, 6, 7, 8] rfl ⟨rfl, rfl, rfl, rfl, rfl, rfl, rfl, rfl, rfl, rfl, rfl, rfl, rfl, rfl, rfl, rfl, rfl, rfl, trivial⟩ rfl ?_
  cbv
  cases pb
  · have hc : O .not false = true := by subst hO; rfl
    have e1 : n2 = n := by rw [e1]; simp
    have e2 : of2 = of := by rw [e2]; simp
    subst e1; subst e2
    rw [hc]
    cbv
    exact ⟨[0, 1, 2, 3, 4, 5, 6, 7, 8, 9, 10, 11, 12, 13, 14, 15, 16, 17, 18], by cbv; try simp⟩
  · have hc : O .not true = false := by subst hO; rfl
    rw [hc]
    cbv
    refine loop1 tab_holds eqs_holds mixed plPi hO hX (α := Nat × Int × Int × Int) (fun y => y.1 ≤ S.length ∧ y.2.1 = (y.1 : Int) ∧ y.2.2.1 = n + (cN r_1 l_1 x (S.take y.1) : Int) ∧ y.2.2.2 = of + (cO r_1 l_1 x (S.take y.1) : Int)) (fun y => [(31, .c (.int .i64 y.2.1))]) (fun y => [(11, .blk 3 [.int .i64 y.2.2.1]), (12, .blk 3 [.int .i64 y.2.2.2])]) (fun y => S.length - y.1) (0, 0, n, of) (by kernel_rfl) ?_ ?_ ?_
    · exact ⟨Nat.zero_le _, rfl, by simp [cN], by simp [cO]⟩
    · cbv; try simp
    · intro y hi
      obtain ⟨i, x31, n', of'⟩ := y
      have hi1 : i ≤ S.length := hi.1
      have hi2 : x31 = (i : Int) := hi.2.1
      have hi3 : n' = n + (cN r_1 l_1 x (S.take i) : Int) := hi.2.2.1
      have hi4 : of' = of + (cO r_1 l_1 x (S.take i) : Int) := hi.2.2.2
      clear hi
      cbv
      by_cases hlt : i < S.length
      · have hc : O .lt x31 (O .ofNat (O .len .i1 S)) = true := by subst hO; subst hi2; exact decide_eq_true (Int.ofNat_lt.2 hlt)
        rw [hc]
        cbv
        have hsb := hs (S.getD i 0) (by rw [List.getD_eq_getElem?_getD, List.getElem?_eq_getElem hlt]; exact List.getElem_mem _)
        obtain ⟨s, hs0⟩ : ∃ s, S.getD i 0 = s := ⟨_, rfl⟩
        rw [hs0] at hsb
        have htk : S.take (i + 1) = S.take i ++ [s] := by
          have hs1 : S[i] = s := by rw [List.getD_eq_getElem?_getD, List.getElem?_eq_getElem hlt] at hs0; simpa using hs0
          rw [List.take_add_one, List.getElem?_eq_getElem hlt, hs1]; rfl
        have hcO : cO r_1 l_1 x (S.take (i + 1)) = cO r_1 l_1 x (S.take i) + (if tOk r_1 l_1 x s then 1 else 0) := by rw [htk, cO, List.countP_append]; simp [cO, List.countP_cons]
        have hcN : cN r_1 l_1 x (S.take (i + 1)) = cN r_1 l_1 x (S.take i) + (if tOk r_1 l_1 x s && decide (x * 86400 + s ≤ l_1) then 1 else 0) := by rw [htk, cN, List.countP_append]; simp [cN, List.countP_cons]
        have b1 := cO_le r_1 l_1 x (S.take i)
        have b2 := cN_le r_1 l_1 x (S.take i)
        rw [List.length_take] at b1 b2
        have bx := x_bd hx hsb
        have bi := i_bd hi2 hlt hS
        have bn := cnt_bd hi3 hn b2 hS
        have bo := cnt_bd hi4 hof b1 hS
        have bl := l_bd hl
        have sn := cnt_step hi3
        have so := cnt_step hi4
        have hL : O .len .i1 S = S.length := by subst hO; rfl
        have hN : O .toNat x31 = i := by subst hO; subst hi2; exact Int.toNat_natCast i
        have hG : O .get .i1 S i = s := by subst hO; exact hs0
        have hX1 : okIdx x31 S.length = true := by rw [hi2]; exact decide_eq_true ⟨Int.natCast_nonneg i, Int.ofNat_lt.2 hlt⟩
        refine ⟨idx_of hO (by rw [hL]; exact hX1), ?_⟩
        refine ⟨kin_of hO (by rw [hL, hN]; exact decide_eq_true hlt), ?_⟩
        have hT : O .add (O .mul x 86400) (O .get .i1 S (O .toNat x31)) = x * 86400 + s := by rw [hN, hG]; subst hO; rfl
        have hM : O .mul x 86400 = x * 86400 := by subst hO; rfl
        refine ⟨inr_of hO (by rw [hM]; exact okI_of bx.1), ?_⟩
        refine ⟨inr_of hO (by rw [hT]; exact okI_of bx.2), ?_⟩
        have hle : O .le (O .add (O .mul x 86400) (O .get .i1 S (O .toNat x31))) l_1 = decide (x * 86400 + s ≤ l_1) := by rw [hT]; subst hO; rfl
        have h3 : O .add x31 1 = ((i + 1 : Nat) : Int) := by subst hO; subst hi2; rfl
        obtain ⟨q1, hq1⟩ : ∃ q, q = (x * 86400 + s) / 3600 := ⟨_, rfl⟩
        obtain ⟨q2, hq2⟩ : ∃ q, q = l_1 / 3600 := ⟨_, rfl⟩
        have hdiv : m_integer_Floor O (O .add (O .mul x 86400) (O .get .i1 S (O .toNat x31))) 3600 = some q1 := by rw [hT, hq1]; subst hO; exact p_integer_Floor _ _ bx.2.1 bx.2.2 (by decide) (by decide)
        have hdiv2 : m_integer_Floor O l_1 3600 = some q2 := by rw [hq2]; subst hO; exact p_integer_Floor _ _ bl.1 bl.2 (by decide) (by decide)
        have a1 : O .add of' 1 = of' + 1 := by subst hO; rfl
        have a2 : O .add n' 1 = n' + 1 := by subst hO; rfl
        have a3 : O .add x31 1 = x31 + 1 := by subst hO; rfl
        have o1 : okI .i64 (O .add of' 1) = true := by rw [a1]; exact okI_of bo
        have o2 : okI .i64 (O .add n' 1) = true := by rw [a2]; exact okI_of bn
        have o3 : okI .i64 (O .add x31 1) = true := by rw [a3]; exact okI_of bi
        -- the time is counted
        have finT : tOk r_1 l_1 x s = true → O .add of' 1 = of + (cO r_1 l_1 x (S.take (i + 1)) : Int) := fun hk => by rw [hcO, hk, a1]; exact so.1
        have finA : tOk r_1 l_1 x s = true → x * 86400 + s ≤ l_1 → O .add n' 1 = n + (cN r_1 l_1 x (S.take (i + 1)) : Int) := fun hk hh => by rw [hcN, hk, decide_eq_true hh, a2]; exact sn.1
        have finB : ¬ x * 86400 + s ≤ l_1 → n' = n + (cN r_1 l_1 x (S.take (i + 1)) : Int) := fun hh => by rw [hcN, decide_eq_false hh, Bool.and_false]; exact sn.2
        have finC : tOk r_1 l_1 x s = false → n' = n + (cN r_1 l_1 x (S.take (i + 1)) : Int) ∧ of' = of + (cO r_1 l_1 x (S.take (i + 1)) : Int) := fun hk => by rw [hcN, hcO, hk, Bool.false_and]; exact ⟨sn.2, so.2⟩
        have hmu : S.length - (i + 1) < S.length - i := mu_lt hlt
        by_cases h5 : r_1 = 5
        · have hc : O .eq r_1 5 = true := by subst hO; exact beq_iff_eq.2 h5
          rw [hc]
          cbv
          refine call_is hO hX (fn_integer_Floor hO hdiv) (by kernel_rfl) [] rfl trivial rfl ?_
          cbv
          refine call_is hO hX (fn_integer_Floor hO hdiv2) (by kernel_rfl) [] rfl trivial rfl ?_
          cbv
          by_cases hqq : q1 = q2
          · have hk : tOk r_1 l_1 x s = true := by unfold tOk; rw [← hq1, ← hq2, hqq]; simp
            have hcq : O .not (O .eq q1 q2) = false := by subst hO; subst hqq; simp [std]
            rw [hcq]
            cbv
            refine ⟨inr_of hO o1, ?_⟩
            by_cases hh : x * 86400 + s ≤ l_1
            · have hc2 : O .le (O .add (O .mul x 86400) (O .get .i1 S (O .toNat x31))) l_1 = true := by rw [hle]; exact decide_eq_true hh
              rw [hc2]
              cbv
              refine ⟨inr_of hO o2, ?_⟩
              refine ⟨inr_of hO o3, ?_⟩
              exact ⟨(i + 1, O .add x31 1, O .add n' 1, O .add of' 1), [0, 1, 2, 3, 4, 5, 6, 7, 8, 9, 10, 11, 12, 13, 14, 15, 16, 17, 18], ⟨hlt, h3, finA hk hh, finT hk⟩, by cbv; try simp, hmu⟩
            · have hc2 : O .le (O .add (O .mul x 86400) (O .get .i1 S (O .toNat x31))) l_1 = false := by rw [hle]; exact decide_eq_false hh
              rw [hc2]
              cbv
              refine ⟨inr_of hO o3, ?_⟩
              exact ⟨(i + 1, O .add x31 1, n', O .add of' 1), [0, 1, 2, 3, 4, 5, 6, 7, 8, 9, 10, 11, 12, 13, 14, 15, 16, 17, 18], ⟨hlt, h3, finB hh, finT hk⟩, by cbv; try simp, hmu⟩
          · have hk : tOk r_1 l_1 x s = false := by unfold tOk; rw [← hq1, ← hq2]; simp [h5, hqq]
            have hcq : O .not (O .eq q1 q2) = true := by subst hO; simp [std, hqq]
            rw [hcq]
            cbv
            refine ⟨inr_of hO o3, ?_⟩
            exact ⟨(i + 1, O .add x31 1, n', of'), [0, 1, 2, 3, 4, 5, 6, 7, 8, 9, 10, 11, 12, 13, 14, 15, 16, 17, 18], ⟨hlt, h3, (finC hk).1, (finC hk).2⟩, by cbv; try simp, hmu⟩
        · have hc : O .eq r_1 5 = false := by subst hO; exact beq_eq_false_iff_ne.2 h5
          have hk : tOk r_1 l_1 x s = true := by unfold tOk; simp [h5]
          rw [hc]
          cbv
          refine ⟨inr_of hO o1, ?_⟩
          by_cases hh : x * 86400 + s ≤ l_1
          · have hc2 : O .le (O .add (O .mul x 86400) (O .get .i1 S (O .toNat x31))) l_1 = true := by rw [hle]; exact decide_eq_true hh
            rw [hc2]
            cbv
            refine ⟨inr_of hO o2, ?_⟩
            refine ⟨inr_of hO o3, ?_⟩
            exact ⟨(i + 1, O .add x31 1, O .add n' 1, O .add of' 1), [0, 1, 2, 3, 4, 5, 6, 7, 8, 9, 10, 11, 12, 13, 14, 15, 16, 17, 18], ⟨hlt, h3, finA hk hh, finT hk⟩, by cbv; try simp, hmu⟩
          · have hc2 : O .le (O .add (O .mul x 86400) (O .get .i1 S (O .toNat x31))) l_1 = false := by rw [hle]; exact decide_eq_false hh
            rw [hc2]
            cbv
            refine ⟨inr_of hO o3, ?_⟩
            exact ⟨(i + 1, O .add x31 1, n', O .add of' 1), [0, 1, 2, 3, 4, 5, 6, 7, 8, 9, 10, 11, 12, 13, 14, 15, 16, 17, 18], ⟨hlt, h3, finB hh, finT hk⟩, by cbv; try simp, hmu⟩
      · have hc : O .lt x31 (O .ofNat (O .len .i1 S)) = false := by subst hO; subst hi2; exact decide_eq_false (fun h => hlt (Int.ofNat_lt.1 h))
        rw [hc]
        cbv
        have ei : i = S.length := by omega
        subst ei
        rw [List.take_length] at hi3 hi4
        have e1 : n' = n2 := by rw [e1, hi3]; simp
        have e2 : of' = of2 := by rw [e2, hi4]; simp
        subst e1; subst e2
        exact ⟨[0, 1, 2, 3, 4, 5, 6, 7, 8, 9, 10, 11, 12, 13, 14, 15, 16, 17, 18], by cbv; try simp⟩
end Go.Proofs.YtmnhfaaaaejpaaaGreat.R
namespace Go.Proofs.YtmnhfaaaaejpaaaGreat.R
open Go.RowKit Go.Shelf Go.Proofs.YtmnhfaaaaejpaaaGreat
set_option maxRecDepth 100000

theorem good_any {P : Program} {n0 : Nat} (w : World) {F : Faces} (h : F.length = n0) (h1 : n0 ≤ 1000) : Good P n0 (fun _ _ => False) (mkX P ⟨w, F, []⟩ (semFin ⟨w, F, []⟩ fun _ _ => True)) :=
  ⟨w, F, fun _ _ => True, h, h1, rfl, fun _ _ _ _ _ _ _ _ _ _ _ => trivial⟩
/-- code ahead, by the run -/
theorem pre_step {P : Program} {tb : Tab} (ht : TabOk P tb) (he : EqOk P tb) (hm : P.follows .mixedOrders = true) (ps : Pis) {n0 : Nat} {W : World} {F : Faces} (hF : F.length = n0) (hn : n0 ≤ 1000) {c rest : Code} {s S : St} {Q : Exit → Act → World → Prop} {a : Act} {w : World}
    (hr : regsB ps c = true) (hs : Sat ⟨W, F, []⟩ s a w) (h : ∀ (O : Ops) (X : Cx), O = std → Good P n0 (fun _ _ => False) X → awp O X tb ps c s (endN fun s' => s' = S)) (k : ∀ a' w', Sat ⟨W, F, []⟩ S a' w' → rest.wp P Q a' w') : (Code.seq c rest).wp P Q a w := by
  refine wp_seq (wp_mono (awp_ok ht he hm (h std _ rfl (good_any W hF hn)) hs hr).1 fun e a w hq => ?_)
  obtain ⟨s', hs', hq⟩ := hq
  cases e with
  | normal => cases (hq : s' = S); exact k _ _ hs'
  | exit id => exact (hq : False).elim
  | goto l => exact (hq : False).elim
  | ret => exact (hq : False).elim
  | panic c => exact (hq : False).elim
  | outgrown => exact (hq : False).elim
theorem start_sat {w : World} {hp : List Ch} (hh : HOk w hp w) {avs : List AV} {args : Array Value} {nt : Nat} (hargs : allv (avs.map (AV.val (faces hp))) = some args.toList) :
    Sat ⟨w, faces hp, []⟩ (startS nt avs (hp.map Ch.ck)) { tmps := args ++ Array.replicate (nt - args.size) undef, defers := [] } w := by
  have hlen := allv_len hargs
  simp only [List.length_map, Array.length_toList] at hlen
  refine ⟨hp, rfl, fun t => ?_, ?_, rfl, FsLe.refl _, hh⟩
  · simp only [startS, appA_eq, nthA_app]
    split
    · rename_i hlt
      have h1 := allv_get hargs t
      rw [List.getElem?_map, List.getElem?_eq_getElem hlt, Option.map_some] at h1
      rw [nthA_eq, List.getD_eq_getElem?_getD, List.getElem?_eq_getElem hlt, Option.getD_some]
      right
      cases hv : args.toList[t]? with
      | none => rw [hv] at h1; cases h1
      | some v =>
        rw [hv] at h1
        simp only [Option.map_some, Option.some.injEq] at h1
        rw [Array.getD_eq_getD_getElem?, Array.getElem?_append_left (by omega)]
        rw [Array.getElem?_toList] at hv
        rw [hv]; exact h1
    · rename_i hge
      rw [nthA_eq, List.getD_eq_getElem?_getD, List.getElem?_replicate]
      split
      · rename_i hlt2
        right
        rw [Array.getD_eq_getD_getElem?, Array.getElem?_append_right (by omega), Array.getElem?_replicate, if_pos (by omega)]
        rfl
      · exact .inl rfl
  · simp only [startS, appA_eq, List.length_append, List.length_replicate, Array.size_append, Array.size_replicate]
    omega

/-- a block that is no cells turns: what the blocks hold stays -/
theorem hok_own {B A A' : World} {hp : List Ch} {row : Option Nat} (h : HOk B hp A) (hnk : ∀ d ∈ hp, ∀ l, d = .keep l → l = []) (hg : A.grownBy A' row) (hr : ∀ r, row = some r → B.heap.size ≤ r ∧ ∃ o : Obj, A.heap[r]? = some o ∧ o.isCells = false) : HOk B hp A' := by
  have hkeep : ∀ (p : Addr) v, A.cell? p = some v → A'.cell? p = some v := fun p v hv => by
    have hlt := World.block_lt_of_cell? A _ hv
    by_cases e : some p.block = row
    · obtain ⟨_, o, ho, hoc⟩ := hr _ e.symm
      exfalso
      unfold World.cell? at hv
      rw [ho] at hv
      cases o <;> simp [Obj.isCells] at hoc hv
    · rw [World.cell?_of_block (hg.block _ hlt e)]; exact hv
  have hblk : ∀ (g : Nat) (ob : Obj), A.heap[g]? = some ob → ob.isCells = true → A'.heap[g]? = some ob := fun g ob hv hc => by
    have hlt := (Array.getElem?_eq_some_iff.1 hv).1
    by_cases e : some g = row
    · obtain ⟨_, o, ho, hoc⟩ := hr _ e.symm
      rw [hv] at ho
      injection ho with ho
      subst ho
      rw [hoc] at hc
      cases hc
    · rw [hg.block _ hlt e]; exact hv
  refine ⟨⟨hg.os.trans h.bel.os, hg.tape.trans h.bel.tape, hg.output.trans h.bel.output, Nat.le_trans h.bel.size hg.size, fun b hb => ?_⟩, fun i d hd => ?_, h.sep⟩
  · rw [hg.block b (Nat.lt_of_lt_of_le hb h.bel.size) (fun e => by have := (hr b e.symm).1; omega)]
    exact h.bel.block b hb
  · have hok := h.ok i d hd
    cases d with
    | blk g T cs => obtain ⟨vs, h1, h2, h3⟩ := hok; exact ⟨vs, h1, hblk g _ h2 rfl, h3⟩
    | arr q A0 cap e l =>
      obtain ⟨hq, h1, h2, h3⟩ := hok
      refine ⟨hq, h1, h2, fun h0 => ?_⟩
      obtain ⟨b, o, ha, hc⟩ := h3 h0
      exact ⟨b, o, ha, fun k hk f v hv => hkeep _ _ (hc k hk f v hv)⟩
    | own A0 cap T e l =>
      obtain ⟨h1, h2⟩ := hok
      exact ⟨h1, h2.imp id fun ⟨g, cap, cur, hv, hgb, hh, r⟩ => ⟨g, cap, cur, hv, hgb, hblk g _ hh rfl, r⟩⟩
    | ro g T cs => obtain ⟨vs, h1, h2⟩ := hok; exact ⟨vs, h1, fun j u hj => hkeep _ _ (h2 j u hj)⟩
    | gone f => trivial
    | ful A0 e l =>
      obtain ⟨hq, h1, h3⟩ := hok
      refine ⟨hq, h1, fun h0 => ?_⟩
      obtain ⟨b, o, ha, hc⟩ := h3 h0
      exact ⟨b, o, ha, fun k hk f v hv => hkeep _ _ (hc k hk f v hv)⟩
    | mat q A0 c rs ll =>
      obtain ⟨g0, g1, g2, g3, g4, g5⟩ := hok
      refine ⟨g0, g1, g2, g3, fun h0 => ?_, fun k v l hk hl => ?_⟩
      · obtain ⟨b, o, ha, hc⟩ := g4 h0
        exact ⟨b, o, ha, fun k v hk => hkeep _ _ (hc k v hk)⟩
      · obtain ⟨A1, c1, hv, h1, h2, h3⟩ := g5 k v l hk hl
        refine ⟨A1, c1, hv, h1, h2, fun h0 => ?_⟩
        obtain ⟨b, o, ha, hc⟩ := h3 h0
        exact ⟨b, o, ha, fun k hk f v hv => hkeep _ _ (hc k hk f v hv)⟩
    | mtw A0 c T U rs ll =>
      obtain ⟨g1, g2, g3, g4⟩ := hok
      have wk : ∀ {T : TypeId} {v : Value} {n : Nat} {xs : List Value}, A.ownsRow B.heap.size T 1 v n xs → A'.ownsRow B.heap.size T 1 v n xs := fun h => ⟨h.1, h.2.imp id fun ⟨g, cap, cur, hv, hgb, hh, r⟩ => ⟨g, cap, cur, hv, hgb, hblk g _ hh rfl, r⟩⟩
      exact ⟨g1, wk g2, fun k v l hk hl => wk (g3 k v l hk hl), g4⟩
    | keep l =>
      have e := hnk _ (List.mem_of_getElem? hd) l rfl
      subst e
      exact fun p hp => by cases hp
end Go.Proofs.YtmnhfaaaaejpaaaGreat.R
namespace Go.Proofs.YtmnhfaaaaejpaaaGreat.R
open Go.RowKit Go.Shelf Go.Proofs.YtmnhfaaaaejpaaaGreat
set_option maxRecDepth 100000

/-- all that is no cells; and how large the heap is -/
def othersL (W : World) : List (Nat × Obj) := (W.heap.size, .cells #[] 0 (0, 0)) :: (List.range W.heap.size).filterMap fun j => match W.heap[j]? with
  | some o => if o.isCells then none else some (j, o)
  | none => none
theorem others_mem {W : World} {b : Nat} {o : Obj} (h : (b, o) ∈ othersL W) : b ≤ W.heap.size ∧ (o.isCells = false → W.heap[b]? = some o) := by
  unfold othersL at h
  rcases List.mem_cons.1 h with h | h
  · cases h
    exact ⟨Nat.le_refl _, fun h => by cases h⟩
  · obtain ⟨j, hj, hm⟩ := List.mem_filterMap.1 h
    have hlt := List.mem_range.1 hj
    split at hm
    · rename_i o' ho
      split at hm
      · cases hm
      · injection hm with hm
        cases hm
        exact ⟨Nat.le_of_lt hlt, fun _ => ho⟩
    · cases hm
theorem others_has {W : World} {b : Nat} {o : Obj} (h : W.heap[b]? = some o) (hc : o.isCells = false) : (b, o) ∈ othersL W := by
  refine List.mem_cons_of_mem _ (List.mem_filterMap.2 ⟨b, List.mem_range.2 (Array.getElem?_eq_some_iff.1 h).1, ?_⟩)
  rw [h]
  simp [hc]
theorem others_back {B W W' : World} {fs : Faces} (h : ChOk B W' fs (.keep (othersL W))) : KeepsOthers W W' :=
  ⟨(h (W.heap.size, .cells #[] 0 (0, 0)) List.mem_cons_self).1, fun k o hk ho => (h (k, o) (others_has hk ho)).2 ho⟩
theorem wr_cells {B w : World} {fs : Faces} {d : Ch} (h : ChOk B w fs d) (hw : d.wr = true) {b : Nat} (ht : d.touch b) : ∃ o, w.heap[b]? = some o ∧ o.isCells = true := by
  have hrow : ∀ {base : Nat} {T : TypeId} {s n : Nat} {v : Value} {xs : List Value}, w.ownsRow base T s v n xs → v.ownBlock = some b → ∃ o, w.heap[b]? = some o ∧ o.isCells = true := fun h hb => by
    rcases h.2 with ⟨rfl, _⟩ | ⟨g, cap, cur, rfl, _, hh, _⟩
    · cases hb
    · have e : g = b := by injection hb
      subst e
      exact ⟨_, hh, rfl⟩
  cases d with
  | blk g T cs =>
    obtain ⟨vs, _, h2, _⟩ := h
    have e : b = g := ht
    subst e
    exact ⟨_, h2, rfl⟩
  | own A cap T e l =>
    obtain ⟨ad, hA, hb⟩ := ht
    exact hrow (v := .slice A l.length cap) h (by rw [hA, ← hb]; rfl)
  | mtw A cap T U rs ll =>
    obtain ⟨h1, h2, h3, h4⟩ := h
    rcases ht with ⟨ad, hA, hb⟩ | ⟨k, v, hk, hv⟩
    · exact hrow h2 (by rw [hA, ← hb]; rfl)
    · have hkl := (List.getElem?_eq_some_iff.1 hk).1
      exact hrow (h3 k v _ hk (List.getElem?_eq_getElem (by omega))) hv
  | arr q A cap e l => cases hw
  | ro g T cs => cases hw
  | gone f => cases hw
  | ful A e l => cases hw
  | keep l => cases hw
  | mat q A cap rs ll => cases hw
/-- another list of what is kept -/
theorem hok_keep {B W : World} {hp : List Ch} {i : Nat} {l l' : List (Nat × Obj)} (h : HOk B hp W) (hi : hp[i]? = some (.keep l)) (hl : ∀ b o, (b, o) ∈ l' → b ≤ W.heap.size ∧ (o.isCells = false → W.heap[b]? = some o)) : HOk B (hp.set i (.keep l')) W ∧ faces (hp.set i (.keep l')) = faces hp := by
  have hfs : faces (hp.set i (.keep l')) = faces hp := faces_set hi rfl
  have hil := (List.getElem?_eq_some_iff.1 hi).1
  have key : ∀ (j : Nat) d', (hp.set i (.keep l'))[j]? = some d' → (j = i ∧ d' = .keep l') ∨ (j ≠ i ∧ hp[j]? = some d') := fun j d' hj => by
    rw [List.getElem?_set] at hj
    split at hj
    · rename_i e1
      injection hj with hj
      exact .inl ⟨e1.symm, hj.symm⟩
    · rename_i e1; exact .inr ⟨fun e => e1 e.symm, hj⟩
  refine ⟨⟨h.bel, fun j d hj => ?_, fun j k d e hjk hj hk hw b h1 h2 => ?_⟩, hfs⟩
  · rw [hfs]
    rcases key j d hj with ⟨rfl, rfl⟩ | ⟨_, hj2⟩
    · exact fun p hp => hl p.1 p.2 hp
    · exact h.ok j d hj2
  · rcases key j d hj with ⟨rfl, rfl⟩ | ⟨_, hj2⟩
    · cases hw
    · rcases key k e hk with ⟨rfl, rfl⟩ | ⟨_, hk2⟩
      · obtain ⟨o, ho, hc⟩ := h2
        have h3 := (hl b o ho).2 hc
        obtain ⟨o', h4, h5⟩ := wr_cells (h.ok j d hj2) hw h1
        rw [h3] at h4
        injection h4 with h4
        subst h4
        rw [hc] at h5
        cases h5
      · exact h.sep j k d e hjk hj2 hk2 hw b h1 h2
theorem results_ok {P : Program} {tb : Tab} {B : Bs} {hp : List Ch} {s : St} {a : Act} {w : World} {fn : Func} (ht : TabOk P tb) (hs : SatH B hp s a w) {l : List TE} (hl : resA std tb s.fr s.hp fn.results.toList = some l) :
    ∃ vs, allv (l.map (TE.val (faces hp))) = some vs ∧ (results fn a.tmps).run P w = .ok (retv vs) w := by
  obtain ⟨vs, g1, g2⟩ := resA_ok (P := P) ht hs hl
  refine ⟨vs, g1, ?_⟩
  have h3 : (results fn a.tmps).run P w = .ok (if h : vs.toArray.size = 1 then vs.toArray[0] else .tuple vs.toArray) w := by
    have h0 : results fn a.tmps = (do let vs ← fn.results.mapM (resOf a.tmps); pure (if h : vs.size = 1 then vs[0] else .tuple vs)) := by
      unfold results
      congr 1
    rw [h0, Array.mapM_eq_mapM_toList]
    simp only [Sem.run_bind, Sem.run_map, g2, Result.andThen_ok, Sem.run_pure]
  rw [h3]
  congr 1
  match vs with
  | [] => rfl
  | [v] => rfl
  | v :: v' :: r => simp [retv]
/-- code by the run, over a state with marks -/
theorem step_D {P : Program} {tb : Tab} (ht : TabOk P tb) (he : EqOk P tb) (hm : P.follows .mixedOrders = true) (ps : Pis) {B : Bs} {c rest : Code} {s S : St} {Q : Exit → Act → World → Prop} {a : Act} {w : World}
    (hr : regsB ps c = true) (hs : Sat B s a w) (h : ∀ (O : Ops) (X : Cx), O = std → awp O X tb ps c s (endN fun s' => s' = S)) (k : ∀ a' w', Sat B S a' w' → rest.wp P Q a' w') : (Code.seq c rest).wp P Q a w := by
  refine wp_seq (wp_mono (awp_ok (fin := fun _ _ => True) ht he hm (h std (mkX P B fun _ _ => True) rfl) hs hr).1 fun e a w hq => ?_)
  obtain ⟨s', hs', hq⟩ := hq
  cases e with
  | normal => cases (hq : s' = S); exact k _ _ hs'
  | exit id => exact (hq : False).elim
  | goto l => exact (hq : False).elim
  | ret => exact (hq : False).elim
  | panic c => exact (hq : False).elim
  | outgrown => exact (hq : False).elim
theorem step_any {P : Program} {tb : Tab} (ht : TabOk P tb) (he : EqOk P tb) (hm : P.follows .mixedOrders = true) {B : Bs} {id : Nat} {ops : Array Oper} {rest : Code} {s S : St} {Q : Exit → Act → World → Prop} {a : Act} {w : World} (d : Dr)
    (hd : (ndL ops.toList && ordW ops d true (Array.replicate ops.size false) ops.size) = true) (hs : Sat B s a w) (h : ∀ (O : Ops) (X : Cx), O = std → awO O X tb ops.toList (fun s' => s' = S) d s) (k : ∀ a' w', Sat B S a' w' → rest.wp P Q a' w') : (Code.seq (.region id ops true) rest).wp P Q a w := by
  refine wp_seq ?_
  obtain ⟨l, rfl⟩ : ∃ l : List Oper, ops = l.toArray := ⟨ops.toList, by simp⟩
  simp only [Bool.and_eq_true] at hd
  obtain ⟨hp, hs⟩ := hs
  have hbw : Below w.heap.size w w.drew := (Below.refl _ _).drew
  have hs' : Sat B s a w.drew := ⟨hp, ⟨hs.ck, hs.fr, hs.sz, hs.nd, hs.pre, hs.ok.later hbw⟩⟩
  refine (both_region_any hd.1 hm ((awO_ok (fin := fun _ _ => True) ht he (K := fun s' => s' = S) (fun s' a' w' e hs => ?_) d).1 _ _ s a _ hd.2 (h std _ rfl) hs')).1
  subst e
  exact k a' w' hs
theorem blk_int {B w : World} {fs : Faces} {g : Nat} {T : TypeId} {k : IntKind} {n : Int} (h : ChOk B w fs (.blk g T [.int k n])) : w.cell? ⟨g, 0, none⟩ = some (.int k n) ∧ g < w.heap.size := by
  obtain ⟨vs, h1, h2, _⟩ := h
  have e : vs = [.int k n] := by simpa [vals, allv, Ce.val] using h1.symm
  subst e
  exact ⟨by rw [h2.cell]; rfl, h2.lt⟩
theorem blk_at {hp : List Ch} {F : Faces} {i g : Nat} {T : TypeId} {cs : List Ce} (hck : nthCk (hp.map Ch.ck) i = .blk T cs) (hF : F[i]? = some ⟨some ⟨g, 0, none⟩, 0, 0, 1, []⟩) (hle : FsLe F (faces hp)) : hp[i]? = some (.blk g T cs) := by
  obtain ⟨d, hd, hc⟩ := nthCk_some hck (by simp)
  cases d <;> simp [Ch.ck] at hc
  obtain ⟨rfl, rfl⟩ := hc
  have h1 := hle i _ hF
  simp only [faces, List.getElem?_map, hd, Option.map_some, Ch.face, Option.some.injEq, Face.mk.injEq, Addr.mk.injEq, and_true] at h1
  rw [hd, h1]
theorem keep_at {hp : List Ch} {i : Nat} {l : List (Nat × Obj)} (hck : nthCk (hp.map Ch.ck) i = .keep l) : hp[i]? = some (.keep l) := by
  obtain ⟨d, hd, hc⟩ := nthCk_some hck (by simp)
  cases d <;> simp [Ch.ck] at hc
  subst hc
  exact hd
theorem faces_eq {F G : Faces} (h : FsLe F G) (hl : F.length = G.length) : F = G := by
  refine List.ext_getElem? fun i => ?_
  rcases Nat.lt_or_ge i F.length with hi | hi
  · rw [List.getElem?_eq_getElem hi]; exact (h i _ (List.getElem?_eq_getElem hi)).symm
  · rw [List.getElem?_eq_none hi, List.getElem?_eq_none (by omega)]
end Go.Proofs.YtmnhfaaaaejpaaaGreat.R
namespace Go.Proofs.YtmnhfaaaaejpaaaGreat.R
open Go.RowKit Go.Shelf Go.Proofs.YtmnhfaaaaejpaaaGreat
set_option maxRecDepth 100000

def plFr2 : List AV := [.junk, .junk, .junk, .junk, .junk, .junk, .c (.ptr 11 0), .c (.ptr 12 0)] ++ List.replicate 51 .junk
set_option maxHeartbeats 40000000 in
theorem fn_recurrence_place {O0 : Ops} (hO0 : O0 = std) {r_1 : Int} {r_2 : Int} {r_3 : Int} {r_4 : Int} {r_5 : Int} {start_1 : Int} {l_1 : Int} {r_6 : List Int} {r_7 : List Int} {r_8 : List Int} {r_9 : List Int} {r_10 : List (Int × Int)} {r_11 : List Int} {r_12 : List Int} {r_13 : List Int} {r_14 : List Int} {r1 r2 : Int} (h : m_recurrence_place O0 r_1 r_2 r_3 r_4 r_5 start_1 l_1 r_6 r_7 r_8 r_9 r_10 r_11 r_12 r_13 r_14 = some (r1, r2)) :
    Fn Tryz.prog 43 [.agg [.int .i64 r_1, .int .i64 r_2, .int .i64 r_3, .int .i64 r_4, .sl 0, .sl 1, .sl 2, .sl 3, .sl 4, .sl 5, .sl 6, .sl 7, .sl 8, .int .i64 r_5], .c (.int .i64 start_1), .c (.int .i64 l_1)] [.arr false .i1 r_6, .arr false .i1 r_7, .arr false .i1 r_8, .arr false .i1 r_9, .arr false .i2 r_10, .arr false .i1 r_11, .arr false .i1 r_12, .arr false .i1 r_13, .arr false .i1 r_14] (fun v c => v = .tup [.one (.int .i64 r1), .one (.int .i64 r2)] ∧ c = []) := by
  subst hO0
  unfold m_recurrence_place at h
  obtain ⟨S, hS, h⟩ := bindS h
  obtain ⟨f, hf, h⟩ := bindS h
  obtain ⟨⟨d1, d2, d3, d4, d5, d6, d7, d8⟩, hd, h⟩ := bindS h
  try dsimp only at h
  obtain ⟨⟨a, b⟩, hab, h⟩ := bindS h
  try dsimp only at h
  obtain ⟨hg1, h⟩ := grdS h
  obtain ⟨hg2, h⟩ := grdS h
  obtain ⟨hg3, h⟩ := grdS h
  obtain ⟨hg4, h⟩ := grdS h
  have hg1 := of_decide_eq_true hg1
  have hg2 := of_decide_eq_true hg2
  have hg3 : ∀ s ∈ S, 0 ≤ s ∧ s < 86400 := fun s hs => of_decide_eq_true (List.all_eq_true.1 hg3 s hs)
  intro w hp0 hck hok vs hvs
  refine callsIn_wide.1 (callsIn_of_wp_marks (n := 3) Tryz.func43 rfl trivial ?_ rfl)
  refine wpIn_wide.2 ?_
  have hs0 := start_sat (nt := 59) hok (args := vs.toArray) hvs
  rw [hck] at hs0
  have hF : (faces hp0).length = 9 := by rw [faces, List.length_map, ← List.length_map (f := Ch.ck), hck]; rfl
  apply pre_step tab_holds eqs_holds mixed [] hF (by decide) (by kernel_rfl) hs0
  · intro O X hO hX
    cbv
  intro a1 w1 hs1
  apply pre_step tab_holds eqs_holds mixed [] hF (by decide) (by kernel_rfl) hs1
  · intro O X hO hX
    cbv
    refine call_is hO hX (fn_recurrence_times rfl hS) (by kernel_rfl) [0, 1, 2, 3, 4, 5, 6, 7, 8] rfl ⟨rfl, rfl, rfl, rfl, rfl, rfl, rfl, rfl, rfl, rfl, rfl, rfl, rfl, rfl, rfl, rfl, rfl, rfl, trivial⟩ rfl ?_
    cbv
  intro a2 w2 hs2
  apply pre_step tab_holds eqs_holds mixed [] hF (by decide) (by kernel_rfl) hs2
  · intro O X hO hX
    cbv
    refine call_is hO hX (fn_integer_Floor rfl hf) (by kernel_rfl) [] rfl trivial rfl ?_
    cbv
    refine call_is hO hX (fn_recurrence_dateOf rfl hd) (by kernel_rfl) [] rfl trivial rfl ?_
    cbv
  intro a3 w3 hs3
  refine wp_seq ?_
  apply pre_step tab_holds eqs_holds mixed [] hF (by decide) (by kernel_rfl) hs3
  · intro O X hO hX
    cbv
    refine call_is hO hX (fn_recurrence_days rfl hab) (by kernel_rfl) [0, 1, 2, 3, 4, 5, 6, 7, 8] rfl ⟨rfl, rfl, rfl, rfl, rfl, rfl, rfl, rfl, rfl, rfl, rfl, rfl, rfl, rfl, rfl, rfl, rfl, rfl, trivial⟩ rfl ?_
    cbv
  intro a4 w4 hs4
  clear hs0 hs1 hs2 hs3
  refine wp_block ?_
  obtain ⟨hp4, hh4⟩ := hs4
  have hlen4 : hp4.length = 18 := by rw [← List.length_map (f := Ch.ck), hh4.ck]; rfl
  have hok5 : HOk w (hp4 ++ [.keep []]) w4 := hh4.ok.push' (Below.refl _ _) (fun p hp => by cases hp) (fun b hb => by obtain ⟨o, ho, _⟩ := hb; cases ho)
  obtain ⟨hp5, h5⟩ : ∃ hp5, hp5 = hp4 ++ [Ch.keep []] := ⟨_, rfl⟩
  rw [← h5] at hok5
  have hck5 : hp5.map Ch.ck = plCk [] r_1 r_2 r_3 r_4 r_5 l_1 d1 d2 d3 d4 d5 d6 d7 d8 a b r_6 r_7 r_8 r_9 r_10 r_11 r_12 r_13 r_14 S 0 0 := by rw [h5, List.map_append, hh4.ck]; rfl
  have hF5 : FsLe (faces hp4) (faces hp5) := by rw [h5]; exact faces_app _ _
  have hl5 : (faces hp5).length = 19 := by rw [faces, List.length_map, h5, List.length_append, hlen4]; rfl
  have blkOf : ∀ (i : Nat) (T : TypeId) (cs : List Ce), nthCk (hp5.map Ch.ck) i = .blk T cs → ∃ g, hp5[i]? = some (.blk g T cs) ∧ (faces hp5)[i]? = some ⟨some ⟨g, 0, none⟩, 0, 0, 1, []⟩ := fun i T cs h => by
    obtain ⟨d, hd, hc⟩ := nthCk_some h (by simp)
    cases d <;> simp [Ch.ck] at hc
    obtain ⟨rfl, rfl⟩ := hc
    exact ⟨_, hd, by simp [faces, hd, Ch.face]⟩
  obtain ⟨g16, hg16, hf16⟩ := blkOf 16 3 [.int .i64 a] (by rw [hck5]; rfl)
  obtain ⟨g17, hg17, hf17⟩ := blkOf 17 3 [.int .i64 b] (by rw [hck5]; rfl)
  have hc16 := blk_int (hok5.ok 16 _ hg16)
  have hc17 := blk_int (hok5.ok 17 _ hg17)
  have hw4 : w.heap.size ≤ w4.heap.size := hok5.bel.size
  -- the counts
  obtain ⟨fN, hfN⟩ : ∃ fN : Dy (loD a) (hiD b) → Nat, fN = fun x => if m_recurrence_passes std r_1 r_2 r_3 r_4 r_5 d1 d2 d3 d4 d5 d6 d7 d8 x.1 r_6 r_7 r_8 r_9 r_10 r_11 r_12 r_13 r_14 = some true then cN r_1 l_1 x.1 S else 0 := ⟨_, rfl⟩
  obtain ⟨fO, hfO⟩ : ∃ fO : Dy (loD a) (hiD b) → Nat, fO = fun x => if m_recurrence_passes std r_1 r_2 r_3 r_4 r_5 d1 d2 d3 d4 d5 d6 d7 d8 x.1 r_6 r_7 r_8 r_9 r_10 r_11 r_12 r_13 r_14 = some true then cO r_1 l_1 x.1 S else 0 := ⟨_, rfl⟩
  have hfNb : ∀ x, fN x ≤ 1000000 := fun x => by rw [hfN]; dsimp only; split; exact Nat.le_trans (cN_le ..) hg2.1; exact Nat.zero_le _
  have hfOb : ∀ x, fO x ≤ 1000000 := fun x => by rw [hfO]; dsimp only; split; exact Nat.le_trans (cO_le ..) hg2.1; exact Nat.zero_le _
  have hlo : -719162 ≤ loD a := by unfold loD; split <;> omega
  have hhi : hiD b ≤ 2932897 := by unfold hiD; split <;> omega
  have hfn : (Ce.fn 88 [16, 17]).val (faces hp5) = some (a4.eval (.tmp 22)) := by
    have := hh4.fr 22
    exact Ce.val_mono hF5 (this.resolve_left (by simp [nthA]))
  have hfv : a4.eval (.tmp 22) = .func (.func 88) #[] #[.pointer (some ⟨g16, 0, none⟩), .pointer (some ⟨g17, 0, none⟩)] := by
    simp only [Ce.val, List.map_cons, List.map_nil, ptrAt, hf16, hf17, allv, Option.some.injEq] at hfn
    exact hfn.symm
  obtain ⟨a5, ha5⟩ : ∃ a5 : Dy (loD a) (hiD b) → Act, a5 = fun x => { tmps := (a4.tmps.setIfInBounds 23 (.int .i64 x.1)).setIfInBounds 10 (.int .i64 x.1), defers := [] } := ⟨_, rfl⟩
  have hsz4 : 59 ≤ a4.tmps.size := hh4.sz
  have hown : OwnFrom (β := List (Dy (loD a) (hiD b))) w4.heap.size (fun pre W => ∃ hp : List Ch, hp.map Ch.ck = plCk [] r_1 r_2 r_3 r_4 r_5 l_1 d1 d2 d3 d4 d5 d6 d7 d8 a b r_6 r_7 r_8 r_9 r_10 r_11 r_12 r_13 r_14 S (sumL fN pre : Nat) (sumL fO pre : Nat) ∧ FsLe (faces hp5) (faces hp) ∧ HOk w hp W) := by
    intro pre A A' row hI hg hr
    obtain ⟨hp, h1, h2, h3⟩ := hI
    refine ⟨hp, h1, h2, hok_own h3 (fun d hd l e => ?_) hg (fun r e => by obtain ⟨q1, q2⟩ := hr r e; exact ⟨by omega, q2⟩)⟩
    subst e
    have hm : Ck.keep l ∈ hp.map Ch.ck := List.mem_map.2 ⟨_, hd, rfl⟩
    rw [h1] at hm
    simpa [plCk] using hm
  refine (wpIn_wide (n := 3)).1 ?_
  refine wpIn_rangeFunc_ownF (n := 3) (gf := 88) (lb := #[.pointer (some ⟨g16, 0, none⟩), .pointer (some ⟨g17, 0, none⟩)]) rfl (by decide) hfv trivial (enters_of Tryz.func88 (by kernel_rfl) rfl)
    (encs := fun x : Dy (loD a) (hiD b) => #[.int .i64 x.1]) (Kp := Kc g16 g17) (S := fun xs => xs = dyL (loD a) (hiD b) (hiD b - loD a).toNat) (Sp := fun _ => True) (N := (hiD b - loD a).toNat) (w0 := w4)
    (fun l J Jx W hW _ _ hY h0 => days1_in 2 l g16 g17 a b hg1 J Jx hY W (old_cell hW hc16.1) (old_cell hW hc17.1) h0)
    (fun h k => ⟨fun v hv => k.1 v (h.1 v hv), fun v hv => k.2 v (h.2 v hv)⟩)
    (fun W l o o' hl ho _ _ => ⟨fun v hv => cell_heap hv (World.putObj_heap_other (by have := hc16.2; show g16 ≠ l; omega)), fun v hv => cell_heap hv (World.putObj_heap_other (by have := hc17.2; show g17 ≠ l; omega))⟩)
    (Below.refl _ _) (fun _ => rfl)
    (fun pre W => ∃ hp : List Ch, hp.map Ch.ck = plCk [] r_1 r_2 r_3 r_4 r_5 l_1 d1 d2 d3 d4 d5 d6 d7 d8 a b r_6 r_7 r_8 r_9 r_10 r_11 r_12 r_13 r_14 S (sumL fN pre : Nat) (sumL fO pre : Nat) ∧ FsLe (faces hp5) (faces hp) ∧ HOk w hp W)
    (fun _ _ _ => False)
    hown (fun _ _ _ _ _ h _ _ => h) ⟨hp5, hck5, FsLe.refl _, hok5⟩ a5 ?assign ?body ?done ?stop
  case stop => intro D c pre W _ _ h _; exact h.elim
  case assign =>
    intro l x W K hK
    refine wpIn_region_list ?_
    have hz : (a4.tmps.setIfInBounds 23 (.int .i64 x.1)).getD 23 undef = .int .i64 x.1 := by
      rw [Array.getD_eq_getD_getElem?, Array.getElem?_setIfInBounds_self_of_lt (by omega)]; rfl
    have hK2 : K { tmps := (a4.tmps.setIfInBounds 23 (.int .i64 x.1)).setIfInBounds 10 (.int .i64 x.1), defers := [] } W := by rw [ha5] at hK; exact hK
    have hz0 : ((#[23].zip #[Value.int .i64 x.1] : Array (Nat × Value)).foldl (fun t (p, v) => t.setIfInBounds p v) a4.tmps) = a4.tmps.setIfInBounds 23 (.int .i64 x.1) := by simp
    rw [hz0]
    show wpListIn _ _ _ _ _ [_] _ _
    unfold wpListIn
    rw [if_pos (show Region.wanted _ _ = true from rfl)]
    refine ⟨fun _ _ => trivial, ?_⟩
    rw [Oper.semAt_eq _ _ _ (fun c e => by cases e)]
    have hev : ({ tmps := a4.tmps.setIfInBounds 23 (.int .i64 x.1), defers := [] } : Act).eval (.tmp 23) = .int .i64 x.1 := hz
    have hrun : (execOp ({ tmps := a4.tmps.setIfInBounds 23 (.int .i64 x.1), defers := [] } : Act).eval { dst := some 10, op := Op.assign (Operand.tmp 23), type := 3, pos := "recurrence.go:334", after := #[], guard := none }).run Tryz.prog W = .ok (.value (.int .i64 x.1)) W := by
      simp only [execOp]
      rw [hev]; rfl
    rw [hrun]
    exact hK2
  case body =>
    intro l pre x W hI hlen
    obtain ⟨hp, hck, hle, hok⟩ := hI
    have hlp : hp.length = 19 := by rw [← List.length_map (f := Ch.ck), hck]; rfl
    have hfe : faces hp5 = faces hp := faces_eq hle (by rw [hl5, faces, List.length_map, hlp])
    obtain ⟨pb, hpb⟩ := Option.isSome_iff_exists.1 (List.all_eq_true.1 hg4 x (mem_days x))
    have eN : fN x = if pb = true then cN r_1 l_1 x.1 S else 0 := by rw [hfN]; dsimp only; rw [hpb]; simp
    have eO : fO x = if pb = true then cO r_1 l_1 x.1 S else 0 := by rw [hfO]; dsimp only; rw [hpb]; simp
    have e1 : ((sumL fN (pre ++ [x]) : Nat) : Int) = (sumL fN pre : Nat) + ((if pb = true then cN r_1 l_1 x.1 S else 0 : Nat) : Int) := by rw [sumL_add, eN]; omega
    have e2 : ((sumL fO (pre ++ [x]) : Nat) : Int) = (sumL fO pre : Nat) + ((if pb = true then cO r_1 l_1 x.1 S else 0 : Nat) : Int) := by rw [sumL_add, eO]; omega
    have hxb : -719162 ≤ x.1 ∧ x.1 < 2932897 := by have := x.2; omega
    have hpl : pre.length ≤ 3652059 := by omega
    have bN := sumL_bd fN 1000000 hfNb pre
    have bO := sumL_bd fO 1000000 hfOb pre
    have hn : (0 : Int) ≤ (sumL fN pre : Nat) ∧ ((sumL fN pre : Nat) : Int) ≤ 9000000000000000 := by omega
    have hof : (0 : Int) ≤ (sumL fO pre : Nat) ∧ ((sumL fO pre : Nat) : Int) ≤ 9000000000000000 := by omega
    have hk18 : hp[18]? = some (.keep []) := keep_at (by rw [hck]; rfl)
    obtain ⟨hok2, hf2⟩ := hok_keep hok hk18 (l' := othersL W) (fun b o h => others_mem h)
    have hsat : Sat ⟨w, faces hp5, []⟩ ⟨plFr x.1, plCk (othersL W) r_1 r_2 r_3 r_4 r_5 l_1 d1 d2 d3 d4 d5 d6 d7 d8 a b r_6 r_7 r_8 r_9 r_10 r_11 r_12 r_13 r_14 S (sumL fN pre : Nat) (sumL fO pre : Nat)⟩ (a5 x) W := by
      refine ⟨hp.set 18 (.keep (othersL W)), ⟨by rw [List.map_set, hck]; rfl, ?_, ?_, by rw [ha5], by rw [hf2]; exact hle, hok2⟩⟩
      · have hv : ∀ i, i ≠ 23 → i ≠ 10 → (a5 x).tmps.getD i undef = a4.tmps.getD i undef := fun i h1 h2 => by
          rw [ha5]
          simp only [Array.getD_eq_getD_getElem?]
          rw [Array.getElem?_setIfInBounds_ne (Ne.symm h2), Array.getElem?_setIfInBounds_ne (Ne.symm h1)]
        have hgo : FsLe (faces hp4) (faces (hp.set 18 (.keep (othersL W)))) := by rw [hf2, ← hfe]; exact hF5
        have go : ∀ i v, i ≠ 23 → i ≠ 10 → nthA _ i = v → v.rel (faces (hp.set 18 (.keep (othersL W)))) ((a5 x).tmps.getD i undef) := fun i v h1 h2 h3 => by
          rw [hv i h1 h2, ← h3]
          exact AV.rel_mono hgo (hh4.fr i)
        intro t
        match t with
        | 3 => exact go 3 _ (by decide) (by decide) rfl
        | 5 => exact go 5 _ (by decide) (by decide) rfl
        | 6 => exact go 6 _ (by decide) (by decide) rfl
        | 7 => exact go 7 _ (by decide) (by decide) rfl
        | 8 => exact go 8 _ (by decide) (by decide) rfl
        | 9 => exact go 9 _ (by decide) (by decide) rfl
        | 10 =>
          right
          rw [ha5]
          simp only [Array.getD_eq_getD_getElem?]
          rw [Array.getElem?_setIfInBounds_self_of_lt (by simp; omega)]; rfl
        | 0 => exact .inl rfl
        | 1 => exact .inl rfl
        | 2 => exact .inl rfl
        | 4 => exact .inl rfl
        | t + 11 =>
          left
          show nthA (plFr x.1) (t + 11) = .junk
          simp only [plFr, nthA]
          rw [nthA_eq, List.getD_eq_getElem?_getD]
          cases hq : [AV.junk, .junk, .junk, .junk, .junk, .junk, .junk, .junk, .junk, .junk, .junk, .junk, .junk, .junk, .junk, .junk, .junk, .junk, .junk, .junk, .junk, .junk, .junk, .junk, .junk, .junk, .junk, .junk, .junk, .junk, .junk, .junk, .junk, .junk, .junk, .junk, .junk, .junk, .junk, .junk, .junk, .junk, .junk, .junk, .junk, .junk, .junk, .junk][t]? with
          | none => rfl
          | some v =>
            have := List.mem_of_getElem? hq
            simp at this
            rw [this]; rfl
      · rw [ha5]; simp [plFr]; omega
    have hwp := (awp_ok (fin := semFin ⟨w, faces hp5, []⟩ fun _ _ => True) tab_holds eqs_holds mixed (place_body (ks := othersL W) rfl (good_any w hl5 (by decide)) hpb hxb hg2.2 hg2.1 hg3 hn hof e1 e2) hsat (by kernel_rfl)).2 (by kernel_rfl) l (3 - 1 - 1) (fun ⟨_, _, _, _, h⟩ => h)
    refine wpIn_mono hwp ?_
    rintro e a' W' ⟨s', hs', hq⟩
    cases e with
    | normal =>
      obtain ⟨m, hm⟩ := hq
      obtain ⟨hp', hh'⟩ := wkAll_ok (B := ⟨w, faces hp5, []⟩) hl5 hm a' W' hs'
      have hkk : hp'[18]? = some (.keep (othersL W)) := keep_at (by rw [hh'.ck]; rfl)
      have hk' := others_back (hh'.ok.ok 18 _ hkk)
      obtain ⟨hok3, hf3⟩ := hok_keep hh'.ok hkk (l' := []) (fun b o h => by cases h)
      have i16 := blk_int (hok.ok 16 _ (blk_at (by rw [hck]; rfl) hf16 hle))
      have i17 := blk_int (hok.ok 17 _ (blk_at (by rw [hck]; rfl) hf17 hle))
      have j16 := blk_int (hh'.ok.ok 16 _ (blk_at (by rw [hh'.ck]; rfl) hf16 hh'.pre))
      have j17 := blk_int (hh'.ok.ok 17 _ (blk_at (by rw [hh'.ck]; rfl) hf17 hh'.pre))
      refine ⟨hk', ⟨fun v hv => by rw [i16.1] at hv; rw [j16.1]; exact hv, fun v hv => by rw [i17.1] at hv; rw [j17.1]; exact hv⟩, hp'.set 18 (.keep []), ?_, by rw [hf3]; exact hh'.pre, hok3⟩
      rw [List.map_set, hh'.ck]; rfl
    | exit id => exact (hq : False).elim
    | goto l => exact (hq : False).elim
    | ret => exact (hq : False).elim
    | panic c => exact (hq : False).elim
    | outgrown => exact (hq : False).elim
  case done =>
    intro D xs W hD hxs hI hKD
    obtain ⟨hp, hckI, hle, hokI⟩ := hI
    subst hxs
    obtain ⟨cn, hcn⟩ : ∃ n : Int, n = ((sumL fN (dyL (loD a) (hiD b) (hiD b - loD a).toNat) : Nat) : Int) := ⟨_, rfl⟩
    obtain ⟨co, hco⟩ : ∃ n : Int, n = ((sumL fO (dyL (loD a) (hiD b) (hiD b - loD a).toNat) : Nat) : Int) := ⟨_, rfl⟩
    rw [← hcn, ← hco] at hckI
    have hk18 : hp[18]? = some (.keep []) := keep_at (by rw [hckI]; rfl)
    obtain ⟨hok2, hf2⟩ := hok_keep hokI hk18 (l' := [(D, .deferred (some []))]) (fun b o h => by
      simp only [List.mem_singleton, Prod.mk.injEq] at h
      obtain ⟨rfl, rfl⟩ := h
      exact ⟨Nat.le_of_lt (Array.getElem?_eq_some_iff.1 hKD).1, fun _ => hKD⟩)
    have hsat : Sat ⟨w, faces hp5, [{ target := .collected D, args := #[] }]⟩ ⟨plFr2, plCk [(D, .deferred (some []))] r_1 r_2 r_3 r_4 r_5 l_1 d1 d2 d3 d4 d5 d6 d7 d8 a b r_6 r_7 r_8 r_9 r_10 r_11 r_12 r_13 r_14 S cn co⟩ { a4 with defers := { target := .collected D, args := #[] } :: a4.defers } W := by
      refine ⟨hp.set 18 (.keep [(D, .deferred (some []))]), ⟨by rw [List.map_set, hckI]; rfl, ?_, by simp [plFr2]; omega, by rw [hh4.nd], by rw [hf2]; exact hle, hok2⟩⟩
      have hgo : FsLe (faces hp4) (faces (hp.set 18 (.keep [(D, .deferred (some []))]))) := by rw [hf2]; exact hF5.trans hle
      have go : ∀ i v, nthA _ i = v → v.rel (faces (hp.set 18 (.keep [(D, .deferred (some []))]))) (a4.tmps.getD i undef) := fun i v h3 => by
        rw [← h3]
        exact AV.rel_mono hgo (hh4.fr i)
      intro t
      match t with
      | 6 => exact go 6 _ rfl
      | 7 => exact go 7 _ rfl
      | 0 => exact .inl rfl
      | 1 => exact .inl rfl
      | 2 => exact .inl rfl
      | 3 => exact .inl rfl
      | 4 => exact .inl rfl
      | 5 => exact .inl rfl
      | t + 8 =>
        left
        show nthA plFr2 (t + 8) = .junk
        simp only [plFr2, List.cons_append, List.nil_append, nthA]
        rw [nthA_eq, List.getD_eq_getElem?_getD, List.getElem?_replicate]
        split <;> rfl
    have hr12 : r1 = cn ∧ r2 = co := by
      rw [hfN] at hcn
      rw [hfO] at hco
      injection h with h
      rw [Prod.mk.injEq] at h
      exact ⟨by rw [hcn]; exact h.1.symm, by rw [hco]; exact h.2.symm⟩
    obtain ⟨rfl, rfl⟩ := hr12
    show Code.wp Tryz.prog (.seq _ .ret) _ _ W
    apply step_any tab_holds eqs_holds mixed (.alt 0 (.alt 1 (.alt 2 (.alt 3 .fin .no) .no) (.alt 2 (.alt 1 (.alt 3 .fin .no) .no) .no)) (.alt 1 (.alt 0 (.alt 2 (.alt 3 .fin .no) .no) .no) .no)) (by kernel_rfl) hsat
    · intro O X hO
      cbv
      repeat' apply And.intro
      all_goals first | exact trivial | exact rfl
    intro a' w' hs'
    obtain ⟨hp', hh'⟩ := hs'
    refine wp_ret ?_
    show LeavesInM _ _ _ _ _ _ a'.defers _ _
    rw [hh'.nd]
    have hkk : hp'[18]? = some (.keep [(D, .deferred (some []))]) := keep_at (by rw [hh'.ck]; rfl)
    have hKD' : w'.heap[D]? = some (.deferred (some [])) := (hh'.ok.ok 18 _ hkk (D, .deferred (some [])) List.mem_cons_self).2 rfl
    refine ⟨by simp, .inl ⟨D, _, rfl, run_takeDeferred hKD', ?_⟩⟩
    obtain ⟨hok3, hf3⟩ := hok_keep hh'.ok hkk (l' := []) (fun b o h => by cases h)
    have hok4 : HOk w (hp'.set 18 (.keep [])) (w'.putObj D (.deferred none)) := hok_own hok3 (fun d hd l e => by
      subst e
      have hm : Ck.keep l ∈ (hp'.set 18 (.keep [])).map Ch.ck := List.mem_map.2 ⟨_, hd, rfl⟩
      rw [List.map_set, hh'.ck] at hm
      simpa [Ch.ck] using hm) (grownBy_putObj' w' D (.deferred none)) (fun r e => by cases e; exact ⟨by omega, _, hKD', rfl⟩)
    have hs16 : SatH ⟨w, faces hp5, [{ target := .collected D, args := #[] }]⟩ (hp'.set 18 (.keep [])) ⟨_, (hp'.map Ch.ck).set 18 (.keep [])⟩ a' (w'.putObj D (.deferred none)) := ⟨by rw [List.map_set]; rfl, by rw [hf3]; exact hh'.fr, hh'.sz, hh'.nd, by rw [hf3]; exact hh'.pre, hok4⟩
    obtain ⟨vs, g1, g2⟩ := results_ok (P := Tryz.prog) (fn := Tryz.f43) tab_holds hs16 (l := [.one (.int .i64 r1), .one (.int .i64 r2)]) (by simp only [hh'.ck]; rfl)
    refine ⟨_, g2, ?_⟩
    have hbel : Below w.heap.size w (w'.putObj D (.deferred none)) := hok4.bel
    have hvs : vs = [.int .i64 r1, .int .i64 r2] := by simpa [allv, TE.val, Ce.val] using g1.symm
    subst hvs
    exact ⟨.tup [.one (.int .i64 r1), .one (.int .i64 r2)], [], [], _, ⟨rfl, rfl⟩, rfl, rfl, rfl, (by rw [List.append_nil]; exact hok.later hbel), (fun j c b hj => by simp at hj), by simp⟩
end Go.Proofs.YtmnhfaaaaejpaaaGreat.R
