/-
  What is known of the functions of granule, for the symbolic run.
-/
import Derived.Test.YtnieceplfjmocaaTabEq
import Derived.Test.YtnieceplfjmocaaOfAny
import Derived.Test.YtnieceplfjmocaaEqual
import Derived.Test.YtnieceplfjmocaaOrderLaw
namespace Go.Proofs.Ytnieceplfjmocaa
open Go.RowKit

theorem post_plain {w w' : World} {hp0 : List Ch} {v : AV} {u : Value} {e : Ending} (hok : HOk w hp0 w) (hv : v.val (faces hp0) = some u) (he : e = .returned u) (hb : Below w.heap.size w w') : Post w hp0 (fun v' c => v' = v ∧ c = []) e w' :=
  ⟨v, [], [], u, ⟨rfl, rfl⟩, rfl, he, by rw [List.append_nil]; exact hv, by rw [List.append_nil]; exact hok.later hb, fun j c b hj => by simp at hj, by simp⟩

theorem arr_sps {B w : World} {fs : Faces} {q : Bool} {A : Option Addr} {c : Nat} {l : List Sp} (h : ChOk B w fs (.arr q A c .i2 l)) : SpsR w A l ∧ l.length ≤ c ∧ c ≤ maxLen := by
  obtain ⟨_, h1, h2, h3⟩ := h
  refine ⟨fun h0 => ?_, h1, h2⟩
  obtain ⟨b, o, ha, hc⟩ := h3 h0
  refine ⟨b, o, ha, fun k hk => ⟨?_, ?_⟩⟩
  · exact hc k hk 0 _ rfl
  · exact hc k hk 1 _ rfl
theorem sps_arr {B w : World} {fs : Faces} {q : Bool} {A : Option Addr} {c : Nat} {l : List Sp} (h : SpsR w A l) (h1 : l.length ≤ c) (h2 : c ≤ maxLen) (hq : q = true → From B.heap.size A) : ChOk B w fs (.arr q A c .i2 l) := by
  refine ⟨fun e ad ha _ => hq e ad ha, h1, h2, fun h0 => ?_⟩
  obtain ⟨b, o, ha, hc⟩ := h h0
  refine ⟨b, o, ha, fun k hk f v hv => ?_⟩
  match f, hv with
  | 0, hv => simp [El.vals] at hv; subst hv; exact (hc k hk).1
  | 1, hv => simp [El.vals] at hv; subst hv; exact (hc k hk).2

theorem view1 {w : World} {hp0 : List Ch} {l : List Sp} (hck : hp0.map Ch.ck = [.arr false .i2 l]) (hok : HOk w hp0 w) : ∃ A c, hp0 = [.arr false A c .i2 l] ∧ SpsR w A l ∧ l.length ≤ c ∧ c ≤ maxLen := by
  match hp0, hck with
  | [], hck => simp at hck
  | _ :: _ :: _, hck => simp at hck
  | [d], hck =>
    simp only [List.map_cons, List.map_nil, List.cons.injEq, and_true] at hck
    cases d <;> simp [Ch.ck] at hck
    rename_i q A c e l'
    obtain ⟨rfl, rfl, hck⟩ := hck
    cases hck
    exact ⟨A, c, rfl, arr_sps (hok.ok 0 _ rfl)⟩
theorem view2 {w : World} {hp0 : List Ch} {l l' : List Sp} (hck : hp0.map Ch.ck = [.arr false .i2 l, .arr false .i2 l']) (hok : HOk w hp0 w) :
    ∃ A c A' c', hp0 = [.arr false A c .i2 l, .arr false A' c' .i2 l'] ∧ (SpsR w A l ∧ l.length ≤ c ∧ c ≤ maxLen) ∧ SpsR w A' l' ∧ l'.length ≤ c' ∧ c' ≤ maxLen := by
  match hp0, hck with
  | [], hck => simp at hck
  | [_], hck => simp at hck
  | _ :: _ :: _ :: _, hck => simp at hck
  | [d, d'], hck =>
    simp only [List.map_cons, List.map_nil, List.cons.injEq, and_true] at hck
    obtain ⟨h1, h2⟩ := hck
    cases d <;> simp [Ch.ck] at h1
    cases d' <;> simp [Ch.ck] at h2
    obtain ⟨rfl, rfl, h1⟩ := h1
    obtain ⟨rfl, rfl, h2⟩ := h2
    cases h1; cases h2
    exact ⟨_, _, _, _, rfl, arr_sps (hok.ok 0 _ rfl), arr_sps (hok.ok 1 _ rfl)⟩

/-- a calendar by value over slice i -/
abbrev calA (o p : Int) (i : Nat) : AV := .agg [.int .i64 o, .int .i64 p, .sl i]

theorem valid_fn {o p : Int} {l : List Sp} {v : Bool} (hv : validB o p l = v) : Fn Try.prog 13 [calA o p 0] [.arr false .i2 l] (fun v' c => v' = .c (.bool v) ∧ c = []) := by
  intro w hp0 hck hok vs hvs
  obtain ⟨A, c, rfl, hs, hl, hm⟩ := view1 hck hok
  simp [AV.val, vals, Ce.val, faces, Ch.face, allv] at hvs
  subst hvs
  exact (valid_at w hs (by omega) hv).mono fun e w' ⟨he, hb⟩ => post_plain hok rfl he hb
theorem equal_fn {o p o' p' : Int} {l l' : List Sp} {v : Bool} (hv : eqC o p l o' p' l' = v) : Fn Try.prog 15 [calA o p 0, calA o' p' 1] [.arr false .i2 l, .arr false .i2 l'] (fun v' c => v' = .c (.bool v) ∧ c = []) := by
  intro w hp0 hck hok vs hvs
  obtain ⟨A, c, A', c', rfl, ⟨hs, hl, hm⟩, hs', hl', hm'⟩ := view2 hck hok
  simp [AV.val, vals, Ce.val, faces, Ch.face, allv] at hvs
  subst hvs
  exact (gequal_at w hs hs' (by omega) (by omega) hv).mono fun e w' ⟨he, hb⟩ => post_plain hok rfl he hb
theorem span_fn {o p k a b E : Int} {l : List Sp} (hk1 : -9223372036854775808 ≤ k) (hk2 : k ≤ 9223372036854775807) (h : spanF o p l k = a ∧ spanT o p l k = b ∧ spanE o p l k = E) :
    Fn Try.prog 17 [calA o p 0, .c (.int .i64 k)] [.arr false .i2 l] (fun v' c => v' = .tup [.many [.int .i64 a, .int .i64 b], .one (.int .i64 E)] ∧ c = []) := by
  intro w hp0 hck hok vs hvs
  obtain ⟨A, c, rfl, hs, hl, hm⟩ := view1 hck hok
  simp [AV.val, vals, Ce.val, faces, Ch.face, allv] at hvs
  subst hvs
  exact (spanC_at w hs (by omega) hk1 hk2 h).mono fun e w' ⟨he, hb⟩ => post_plain hok rfl he hb
theorem sequal_fn {l l' : List Sp} {v : Bool} (hv : decide (l = l') = v) : Fn Try.prog 16 [.c (.sl 0), .c (.sl 1)] [.arr false .i2 l, .arr false .i2 l'] (fun v' c => v' = .c (.bool v) ∧ c = []) := by
  intro w hp0 hck hok vs hvs
  obtain ⟨A, c, A', c', rfl, ⟨hs, hl, hm⟩, hs', hl', hm'⟩ := view2 hck hok
  simp [AV.val, vals, Ce.val, faces, Ch.face, allv] at hvs
  subst hvs
  exact (sequal_at w hs hs' (by omega) (by omega) hv).mono fun e w' ⟨he, hb⟩ => post_plain hok rfl he hb
theorem awake_fn : Fn Try.prog 12 [] [] (fun v' c => v' = .c (.bool true) ∧ c = []) := by
  refine fn_old [] (.bool true) (fun w => awake_any w) (fun fs => rfl) (fun fs => rfl)
theorem of_fn {o p O P E : Int} {l L : List Sp} (h : ofRO o p l = O ∧ ofRP o p l = P ∧ ofRL o p l = L ∧ ofErr o p l = E) :
    Fn Try.prog 14 [.c (.int .i64 o), .c (.int .i64 p), .c (.sl 0)] [.arr false .i2 l] (fun v' c => v' = .tup [.many [.int .i64 O, .int .i64 P, .sl 1], .one (.int .i64 E)] ∧ c = [.arr true .i2 L]) := by
  obtain ⟨rfl, rfl, rfl, rfl⟩ := h
  intro w hp0 hck hok vs hvs
  obtain ⟨A, c, rfl, hs, hl, hm⟩ := view1 hck hok
  simp [AV.val, vals, Ce.val, faces, Ch.face, allv] at hvs
  subst hvs
  refine (of_any o p A c l w hs (by omega)).mono fun e w' ⟨⟨A', c', he, hs', hl', hm', hf'⟩, hb⟩ => ?_
  refine ⟨_, _, [.arr true A' c' .i2 (ofRL o p l)], _, ⟨rfl, rfl⟩, rfl, he, rfl, ?_, fun j d b hj hd => ?_, by simp⟩
  · refine hok.union hb (fun j d hj => ?_) (fun j d b hj hd => ?_) (fun i j d d' _ hi _ hw => ?_)
    · match j, hj with
      | 0, hj => simp at hj; subst hj; exact sps_arr hs' hl' hm' (fun _ => hf')
    · match j, hj with
      | 0, hj => simp at hj; subst hj; obtain ⟨_, ad, ha, hb'⟩ := hd; rw [← hb']; exact hf' ad ha
    · match i, hi with
      | 0, hi => simp at hi; subst hi; cases hw
  · match j, hj with
    | 0, hj => simp at hj; subst hj; obtain ⟨_, ad, ha, hb'⟩ := hd; rw [← hb']; exact hf' ad ha
end Go.Proofs.Ytnieceplfjmocaa
