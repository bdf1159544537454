/-
  Models of functions (printed by lift.py).
  The days of a period, one after the other: the iterator's contract for every body of a range over it.
  recurrence.place: its model.
-/
import Derived.Test.YtmnhfaaaaejpaaaGreatYM
import Derived.Test.YtmnhfaaaaejpaaaGreatTabEq
import Derived.RangeFuncKeeps
import Derived.RangeFuncLeaves
import Derived.Shelf.Abstract
import Derived.WalkKit
import Derived.OwnWalkIn
import Derived.TacticsInMore
import Derived.LoopNIn
import Derived.LoopIn
namespace Go.Proofs.YtmnhfaaaaejpaaaGreat
open Go.RowKit
set_option maxRecDepth 100000

def m_recurrence_days (O : Ops) (r_1 : Int) (_r_2 : Int) (_r_3 : Int) (_r_4 : Int) (r_5 : Int) (l_1 : Int) (_r_6 : List Int) (_r_7 : List Int) (_r_8 : List Int) (r_9 : List Int) (_r_10 : List (Int × Int)) (_r_11 : List Int) (_r_12 : List Int) (_r_13 : List Int) (_r_14 : List Int) : Option (Int × Int) :=
  Option.bind (m_integer_Floor O l_1 86400) fun n59 =>
  Option.bind (m_recurrence_dateOf O n59) fun (_, _, _, _, n64, n65, n66, n67) =>
  grd (okI .i64 ((O .add n59 1))) <|
  Option.bind (
    bif (O .eq r_1 1) then
      (some (O .lt 0 (O .ofNat (O .len .i1 r_9))))
    else
      (some false) : Option ((Bool))) fun x70 =>
  Option.bind (
    bif x70 then
      Option.bind (m_recurrence_weekYear O n59 r_5) fun n68 =>
      grd (okI .i64 ((O .add n68 1))) <|
      Option.bind (m_recurrence_firstWeek O n68 r_5) fun n69 =>
      Option.bind (m_recurrence_firstWeek O ((O .add n68 1)) r_5) fun n70 =>
      (some (n69, n70))
    else
      Option.bind (
        bif (O .eq r_1 1) then
          grd (okI .i64 ((O .sub n59 n64))) <|
          grd (okI .i64 ((O .add (O .sub n59 n64) 1))) <|
          grd (okI .i64 ((O .add (O .add (O .sub n59 n64) 1) n65))) <|
          (some ((O .add (O .sub n59 n64) 1), (O .add (O .add (O .sub n59 n64) 1) n65)))
        else
          Option.bind (
            bif (O .eq r_1 2) then
              grd (okI .i64 ((O .sub n59 n66))) <|
              grd (okI .i64 ((O .add (O .sub n59 n66) 1))) <|
              grd (okI .i64 ((O .add (O .add (O .sub n59 n66) 1) n67))) <|
              (some ((O .add (O .sub n59 n66) 1), (O .add (O .add (O .sub n59 n66) 1) n67)))
            else
              Option.bind (
                bif (O .eq r_1 3) then
                  Option.bind (m_recurrence_week O n59 r_5) fun n71 =>
                  grd (okI .i64 ((O .add n71 7))) <|
                  (some (n71, (O .add n71 7)))
                else
                  (some (n59, (O .add n59 1))) : Option ((Int × Int))) fun (x73, x74) =>
              (some (x73, x74)) : Option ((Int × Int))) fun (x77, x78) =>
          (some (x77, x78)) : Option ((Int × Int))) fun (x81, x82) =>
      (some (x81, x82)) : Option ((Int × Int))) fun (x85, x86) =>
  (some (x85, x86))
end Go.Proofs.YtmnhfaaaaejpaaaGreat
namespace Go.Proofs.YtmnhfaaaaejpaaaGreat
open Go.RowKit Go.Shelf

attribute [local go_sem] Oper.semAt_some

/-- a day of a range -/
abbrev Dy (lo hi : Int) := { x : Int // lo ≤ x ∧ x < hi }
/-- the first days of a range -/
def dyL (lo hi : Int) : Nat → List (Dy lo hi)
  | 0 => []
  | k + 1 => if h : lo + (k : Int) < hi then dyL lo hi k ++ [⟨lo + k, by omega, h⟩] else dyL lo hi k
theorem dyL_succ {lo hi : Int} {k : Nat} (h : lo + (k : Int) < hi) : dyL lo hi (k + 1) = dyL lo hi k ++ [⟨lo + k, by omega, h⟩] := by rw [dyL, dif_pos h]
theorem dyL_len {lo hi : Int} : ∀ k : Nat, (k : Int) ≤ (hi - lo).toNat → (dyL lo hi k).length = k := by
  intro k
  induction k with
  | zero => intro _; rfl
  | succ k ih => intro h; rw [dyL_succ (by omega), List.length_append, ih (by omega)]; rfl
/-- what a round keeps: the two numbers that the iterator has captured -/
def Kc (B0 B1 : Nat) (W W' : World) : Prop := (∀ v, W.cell? ⟨B0, 0, none⟩ = some v → W'.cell? ⟨B0, 0, none⟩ = some v) ∧ ∀ v, W.cell? ⟨B1, 0, none⟩ = some v → W'.cell? ⟨B1, 0, none⟩ = some v
def loD (a : Int) : Int := if -719162 > a then -719162 else a
def hiD (b : Int) : Int := if 2932897 < b then 2932897 else b

set_option maxRecDepth 100000 in
set_option maxHeartbeats 4000000 in
theorem days1_in (n : Nat) (l B0 B1 : Nat) (a b : Int) (hbd : -9000000000000000 ≤ a ∧ a ≤ 9000000000000000 ∧ -9000000000000000 ≤ b ∧ b ≤ 9000000000000000) (J Jx : List (Dy (loD a) (hiD b)) → World → Prop)
    (hY : ∀ pre x W, J pre W → pre.length < (hiD b - loD a).toNat → YieldAt Fence.wide (n - 1) Tryz.prog l #[.int .i64 x.1] W fun e W' =>
      (e = .returned (.bool true) ∧ J (pre ++ [x]) W' ∧ Kc B0 B1 W W') ∨ (e = .returned (.bool false) ∧ Jx (pre ++ [x]) W'))
    (W : World) (h0c : W.cell? ⟨B0, 0, none⟩ = some (.int .i64 a)) (h1c : W.cell? ⟨B1, 0, none⟩ = some (.int .i64 b)) (h0 : J [] W) :
    CallsIn Fence.wide n Tryz.prog 88 #[.func (.yield l) #[] #[], .pointer (some ⟨B0, 0, none⟩), .pointer (some ⟨B1, 0, none⟩)] W fun e W' => (∃ v, e = .returned v) ∧
      ((∃ ys, ys = dyL (loD a) (hiD b) (hiD b - loD a).toNat ∧ J ys W') ∨ (∃ pre, True ∧ Jx pre W')) := by
  have hmx : ∀ w, (Builtin.max_ #[3, 3] 3 #[.int .i64 a, .int .i64 (-719162)]).run Tryz.prog w = .ok (.int .i64 (loD a)) w := fun w => by rw [run_max_int2]; rfl
  have hmn : ∀ w, (Builtin.min_ #[3, 3] 3 #[.int .i64 b, .int .i64 2932897]).run Tryz.prog w = .ok (.int .i64 (hiD b)) w := fun w => by rw [run_min_int2]; rfl
  refine callsIn_of_wp Tryz.func88 rfl trivial ?_ rfl
  simp only [Tryz.ntmps88, List.size_toArray, List.length_cons, List.length_nil, Nat.reduceAdd, Nat.reduceSub, Array.replicate_succ, Array.replicate_zero, List.push_toArray, List.append_toArray, List.nil_append, List.cons_append]
  gi_wp2
  gi_loopw [4] (fun p wr => ∃ k : Nat, p = .int .i64 (loD a + (k : Int)) ∧ k ≤ (hiD b - loD a).toNat ∧ wr.cell? ⟨B0, 0, none⟩ = some (.int .i64 a) ∧ wr.cell? ⟨B1, 0, none⟩ = some (.int .i64 b) ∧ J (dyL (loD a) (hiD b) k) wr)
    (fun p _ => (hiD b - intOf p).toNat)
  case atStart =>
    exact ⟨0, by simp [loD], by omega, h0c, h1c, h0⟩
  case round =>
    obtain ⟨k, rfl, hk, hc0, hc1, hJs⟩ := hrel
    by_cases hlast : loD a + (k : Int) < hiD b
    · obtain ⟨fn, tmps, assign, body, hy, hR⟩ := hY (dyL (loD a) (hiD b) k) ⟨loD a + k, by omega, hlast⟩ wr hJs (by rw [dyL_len k (by omega)]; omega)
      have hd : decide (loD a + (k : Int) < hiD b) = true := decide_eq_true hlast
      have hl0 : -719162 ≤ loD a := by unfold loD; split <;> omega
      have hh0 : hiD b ≤ 2932897 := by unfold hiD; split <;> omega
      have hw : wrap64 (loD a + (k : Int) + 1) = loD a + (k : Int) + 1 := by unfold wrap64; omega
      dsimp only at hy
      gi_wp2
      refine ⟨fun h => (by cases h), hR.mono ?_⟩
      rintro e W3 (⟨rfl, hJ3, hk3⟩ | ⟨rfl, hJx3⟩)
      · have hc03 : W3.cell? ⟨B0, 0, none⟩ = some (.int .i64 a) := hk3.1 _ hc0
        have hc13 : W3.cell? ⟨B1, 0, none⟩ = some (.int .i64 b) := hk3.2 _ hc1
        gi_wp2
        go_roundw
        case rel =>
          refine ⟨k + 1, by simp; omega, by omega, hc03, hc13, ?_⟩
          rw [dyL_succ hlast]
          exact hJ3
        case measure => simp only [intOf]; omega
      · gi_wp2
        refine bodyPost_ret (results_none rfl _ _ _) rfl ?_
        exact ⟨⟨_, rfl⟩, .inr ⟨_, trivial, hJx3⟩⟩
    · have hd : decide (loD a + (k : Int) < hiD b) = false := decide_eq_false hlast
      have hkN : k = (hiD b - loD a).toNat := by omega
      rw [hkN] at hJs
      gi_wp2
      go_end0
      exact ⟨⟨_, rfl⟩, .inl hJs⟩
end Go.Proofs.YtmnhfaaaaejpaaaGreat
namespace Go.Proofs.YtmnhfaaaaejpaaaGreat.R
open Go.RowKit Go.Proofs.YtmnhfaaaaejpaaaGreat

def tOk (f l d s : Int) : Bool := !(f == 5) || (((d * 86400 + s) / 3600 == l / 3600))
def cO (f l d : Int) (S : List Int) : Nat := S.countP fun s => tOk f l d s
def cN (f l d : Int) (S : List Int) : Nat := S.countP fun s => tOk f l d s && decide (d * 86400 + s ≤ l)
def sumL {α : Type} (f : α → Nat) (l : List α) : Nat := (l.map f).sum
theorem sumL_add {α : Type} (f : α → Nat) (l : List α) (x : α) : sumL f (l ++ [x]) = sumL f l + f x := by simp [sumL]
def m_recurrence_place (O : Ops) (r_1 : Int) (r_2 : Int) (r_3 : Int) (r_4 : Int) (r_5 : Int) (start_1 : Int) (l_1 : Int) (r_6 : List Int) (r_7 : List Int) (r_8 : List Int) (r_9 : List Int) (r_10 : List (Int × Int)) (r_11 : List Int) (r_12 : List Int) (r_13 : List Int) (r_14 : List Int) : Option (Int × Int) :=
  Option.bind (m_recurrence_times O r_1 r_2 r_3 r_4 r_5 start_1 r_6 r_7 r_8 r_9 r_10 r_11 r_12 r_13 r_14) fun S =>
  Option.bind (m_integer_Floor O start_1 86400) fun f =>
  Option.bind (m_recurrence_dateOf O f) fun (d1, d2, d3, d4, d5, d6, d7, d8) =>
  Option.bind (m_recurrence_days O r_1 r_2 r_3 r_4 r_5 l_1 r_6 r_7 r_8 r_9 r_10 r_11 r_12 r_13 r_14) fun (a, b) =>
  grd (decide (-9000000000000000 ≤ a ∧ a ≤ 9000000000000000 ∧ -9000000000000000 ≤ b ∧ b ≤ 9000000000000000)) <|
  grd (decide (S.length ≤ 1000000 ∧ -9000000000000000 ≤ l_1 ∧ l_1 ≤ 9000000000000000)) <|
  grd (S.all fun s => decide (0 ≤ s ∧ s < 86400)) <|
  grd ((dyL (loD a) (hiD b) (hiD b - loD a).toNat).all fun x => (m_recurrence_passes O r_1 r_2 r_3 r_4 r_5 d1 d2 d3 d4 d5 d6 d7 d8 x.1 r_6 r_7 r_8 r_9 r_10 r_11 r_12 r_13 r_14).isSome) <|
  some (((sumL (fun x : Dy (loD a) (hiD b) => if m_recurrence_passes O r_1 r_2 r_3 r_4 r_5 d1 d2 d3 d4 d5 d6 d7 d8 x.1 r_6 r_7 r_8 r_9 r_10 r_11 r_12 r_13 r_14 = some true then cN r_1 l_1 x.1 S else 0) (dyL (loD a) (hiD b) (hiD b - loD a).toNat) : Nat) : Int),
    ((sumL (fun x : Dy (loD a) (hiD b) => if m_recurrence_passes O r_1 r_2 r_3 r_4 r_5 d1 d2 d3 d4 d5 d6 d7 d8 x.1 r_6 r_7 r_8 r_9 r_10 r_11 r_12 r_13 r_14 = some true then cO r_1 l_1 x.1 S else 0) (dyL (loD a) (hiD b) (hiD b - loD a).toNat) : Nat) : Int))
theorem mem_dyL {lo hi : Int} (x : Dy lo hi) : ∀ k : Nat, x.1 < lo + (k : Int) → x ∈ dyL lo hi k := by
  intro k
  induction k with
  | zero => intro h; have := x.2; omega
  | succ k ih =>
    intro h
    by_cases hk : x.1 < lo + (k : Int)
    · by_cases hh : lo + (k : Int) < hi
      · rw [dyL_succ hh]; exact List.mem_append_left _ (ih hk)
      · rw [dyL, dif_neg hh]; exact ih hk
    · have hx := x.2
      rw [dyL_succ (by omega)]
      refine List.mem_append_right _ (List.mem_singleton.2 (Subtype.ext ?_))
      show x.1 = lo + k
      omega
theorem mem_days {lo hi : Int} (x : Dy lo hi) : x ∈ dyL lo hi (hi - lo).toNat := mem_dyL x _ (by have := x.2; omega)
theorem sumL_bd {α : Type} (f : α → Nat) (B : Nat) (h : ∀ x, f x ≤ B) : ∀ l : List α, sumL f l ≤ l.length * B := by
  intro l
  induction l with
  | nil => simp [sumL]
  | cons x l ih =>
    have := h x
    simp only [sumL, List.map_cons, List.sum_cons, List.length_cons, Nat.succ_mul] at *
    omega
theorem cO_le (f l d : Int) (S : List Int) : cO f l d S ≤ S.length := List.countP_le_length
theorem cN_le (f l d : Int) (S : List Int) : cN f l d S ≤ S.length := List.countP_le_length
end Go.Proofs.YtmnhfaaaaejpaaaGreat.R
