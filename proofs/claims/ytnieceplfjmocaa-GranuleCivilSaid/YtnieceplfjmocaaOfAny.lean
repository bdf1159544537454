/-
  Of, the program's and the reference's: one result for every input.
-/
import Derived.Test.YtnieceplfjmocaaROf
namespace Go.Proofs.Ytnieceplfjmocaa
open Go.RowKit Go.BigFrame

def ofRO (o p : Int) (l : List Sp) : Int := if ofErr o p l = 0 then o + fr l 0 else 0
def ofRP (o p : Int) (l : List Sp) : Int := if ofErr o p l = 0 then ofP p l else 0
def ofRL (o p : Int) (l : List Sp) : List Sp := if ofErr o p l = 0 then ofL p l else []
def OfRes (e : Ending) (w' : World) (B : Nat) (o p : Int) (l : List Sp) : Prop :=
  ∃ A c, e = .returned (.tuple #[.agg #[.int .i64 (ofRO o p l), .int .i64 (ofRP o p l), .slice A (ofRL o p l).length c], .int .i64 (ofErr o p l)]) ∧ SpsR w' A (ofRL o p l) ∧ (ofRL o p l).length ≤ c ∧ c ≤ maxLen ∧ From B A

theorem ofRes_err {e : Ending} {w' : World} {B : Nat} {o p k : Int} {l : List Sp} (h : OfErr e k) (hk : ofErr o p l = k) (h0 : k ≠ 0) : OfRes e w' B o p l := by
  have e1 : ofRL o p l = [] := by rw [ofRL, hk, if_neg h0]
  refine ⟨none, 0, ?_, by rw [e1]; exact fun h => absurd h (by simp), by rw [e1]; simp, by simp [maxLen], fun ad h => by cases h⟩
  rw [e1, ofRO, ofRP, hk, if_neg h0, if_neg h0]
  exact h
theorem ofRes_ok {e : Ending} {w' : World} {B : Nat} {o p : Int} {l : List Sp} (h : OfOk e w' B o p l) (hk : ofErr o p l = 0) : OfRes e w' B o p l := by
  have e1 : ofRL o p l = ofL p l := by rw [ofRL, if_pos hk]
  obtain ⟨A, c, h1, h2, h3, h4, h5⟩ := h
  refine ⟨A, c, ?_, by rw [e1]; exact h2, by rw [e1]; exact h3, h4, h5⟩
  rw [e1, ofRO, ofRP, hk, if_pos rfl, if_pos rfl]
  exact h1

theorem of_any (o p : Int) (A : Option Addr) (c : Nat) (l : List Sp) (w : World) (h : SpsR w A l) (hn : l.length ≤ maxLen) :
    Calls Try.prog 14 #[.int .i64 o, .int .i64 p, .slice A l.length c] w fun e w' => OfRes e w' w.heap.size o p l ∧ Below w.heap.size w w' := by
  have E1 : (p < 1 ∨ 12622780800 < p ∨ ascB l = false ∨ p < tt l (l.length - 1) - fr l 0) → ofErr o p l = 1 := fun h => by rw [ofErr, if_pos h]
  by_cases p1 : p < 1
  · exact (of_e1 o p A c l w h hn p1).mono fun e w' ⟨h1, h2⟩ => ⟨ofRes_err h1 (E1 (.inl p1)) (by omega), h2⟩
  by_cases p2 : 12622780800 < p
  · exact (of_e2 o p A c l w h hn p2).mono fun e w' ⟨h1, h2⟩ => ⟨ofRes_err h1 (E1 (.inr (.inl p2))) (by omega), h2⟩
  by_cases ha : ascB l = false
  · exact (of_e3 o p A c l w h hn (by omega) (by omega) ha).mono fun e w' ⟨h1, h2⟩ => ⟨ofRes_err h1 (E1 (.inr (.inr (.inl ha)))) (by omega), h2⟩
  have ha' : ascB l = true := by simpa using ha
  by_cases ht : p < tt l (l.length - 1) - fr l 0
  · exact (of_e4 o p A c l w h hn (by omega) (by omega) ha' ht).mono fun e w' ⟨h1, h2⟩ => ⟨ofRes_err h1 (E1 (.inr (.inr (.inr ht)))) (by omega), h2⟩
  have N1 : ¬ (p < 1 ∨ 12622780800 < p ∨ ascB l = false ∨ p < tt l (l.length - 1) - fr l 0) := by simp only [not_or]; exact ⟨p1, p2, ha, ht⟩
  by_cases h5 : 5000 < l.length
  · exact (of_e5 o p A c l w h hn (by omega) (by omega) ha' (by omega) h5).mono fun e w' ⟨h1, h2⟩ => ⟨ofRes_err h1 (by rw [ofErr, if_neg N1, if_pos h5]) (by omega), h2⟩
  by_cases hl : lineB o = false
  · exact (of_e6 o p A c l w h hn (by omega) (by omega) ha' (by omega) (by omega) hl).mono fun e w' ⟨h1, h2⟩ => ⟨ofRes_err h1 (by rw [ofErr, if_neg N1, if_neg h5, if_pos (.inl hl)]) (by omega), h2⟩
  have hl' : lineB o = true := by simpa using hl
  by_cases hh : halfB (o + fr l 0) = false
  · exact (of_e7 o p A c l w h hn (by omega) (by omega) ha' (by omega) (by omega) hl' hh).mono fun e w' ⟨h1, h2⟩ => ⟨ofRes_err h1 (by rw [ofErr, if_neg N1, if_neg h5, if_pos (.inr hh)]) (by omega), h2⟩
  have hh' : halfB (o + fr l 0) = true := by simpa using hh
  exact (of_ok o p A c l w h (by omega) (by omega) ha' (by omega) (by omega) hl' hh').mono fun e w' ⟨h1, h2⟩ => ⟨ofRes_ok h1 (by rw [ofErr, if_neg N1, if_neg h5, if_neg (by simp [hl', hh'])]), h2⟩

theorem rof_any (o p : Int) (A : Option Addr) (c : Nat) (l : List Sp) (w : World) (h : SpsR w A l) (hn : l.length ≤ maxLen) :
    Calls Try.prog 18 #[.int .i64 o, .int .i64 p, .slice A l.length c] w fun e w' => OfRes e w' w.heap.size o p l ∧ Below w.heap.size w w' := by
  have E1 : (p < 1 ∨ 12622780800 < p ∨ ascB l = false ∨ p < tt l (l.length - 1) - fr l 0) → ofErr o p l = 1 := fun h => by rw [ofErr, if_pos h]
  by_cases p1 : p < 1
  · exact (rof_e1 o p A c l w h hn p1).mono fun e w' ⟨h1, h2⟩ => ⟨ofRes_err h1 (E1 (.inl p1)) (by omega), h2⟩
  by_cases p2 : 12622780800 < p
  · exact (rof_e2 o p A c l w h hn p2).mono fun e w' ⟨h1, h2⟩ => ⟨ofRes_err h1 (E1 (.inr (.inl p2))) (by omega), h2⟩
  by_cases ha : ascB l = false
  · exact (rof_e3 o p A c l w h hn (by omega) (by omega) ha).mono fun e w' ⟨h1, h2⟩ => ⟨ofRes_err h1 (E1 (.inr (.inr (.inl ha)))) (by omega), h2⟩
  have ha' : ascB l = true := by simpa using ha
  by_cases ht : p < tt l (l.length - 1) - fr l 0
  · exact (rof_e4 o p A c l w h hn (by omega) (by omega) ha' ht).mono fun e w' ⟨h1, h2⟩ => ⟨ofRes_err h1 (E1 (.inr (.inr (.inr ht)))) (by omega), h2⟩
  have N1 : ¬ (p < 1 ∨ 12622780800 < p ∨ ascB l = false ∨ p < tt l (l.length - 1) - fr l 0) := by simp only [not_or]; exact ⟨p1, p2, ha, ht⟩
  by_cases h5 : 5000 < l.length
  · exact (rof_e5 o p A c l w h hn (by omega) (by omega) ha' (by omega) h5).mono fun e w' ⟨h1, h2⟩ => ⟨ofRes_err h1 (by rw [ofErr, if_neg N1, if_pos h5]) (by omega), h2⟩
  by_cases hl : lineB o = false
  · exact (rof_e6 o p A c l w h hn (by omega) (by omega) ha' (by omega) (by omega) hl).mono fun e w' ⟨h1, h2⟩ => ⟨ofRes_err h1 (by rw [ofErr, if_neg N1, if_neg h5, if_pos (.inl hl)]) (by omega), h2⟩
  have hl' : lineB o = true := by simpa using hl
  by_cases hh : halfB (o + fr l 0) = false
  · have E2 : ofErr o p l = 2 := by rw [ofErr, if_neg N1, if_neg h5, if_pos (.inr hh)]
    by_cases hh1 : o + fr l 0 < -2199023255552
    · exact (rof_e7a o p A c l w h hn (by omega) (by omega) ha' (by omega) (by omega) hl' hh1).mono fun e w' ⟨h1, h2⟩ => ⟨ofRes_err h1 E2 (by omega), h2⟩
    · have hh2 : 2199023255552 < o + fr l 0 := by
        rcases Int.lt_or_le 2199023255552 (o + fr l 0) with h9 | h9
        · exact h9
        · rw [halfB_iff.2 ⟨by omega, h9⟩] at hh; cases hh
      exact (rof_e7b o p A c l w h hn (by omega) (by omega) ha' (by omega) (by omega) hl' (by omega) hh2).mono fun e w' ⟨h1, h2⟩ => ⟨ofRes_err h1 E2 (by omega), h2⟩
  have hh' : halfB (o + fr l 0) = true := by simpa using hh
  exact (rof_ok o p A c l w h (by omega) (by omega) ha' (by omega) (by omega) hl' hh').mono fun e w' ⟨h1, h2⟩ => ⟨ofRes_ok h1 (by rw [ofErr, if_neg N1, if_neg h5, if_neg (by simp [hl', hh'])]), h2⟩
end Go.Proofs.Ytnieceplfjmocaa
