/-
  The reference's Shift, any input.
-/
import Derived.Test.YtnieceplfjmocaaRShiftOk
namespace Go.Proofs.Ytnieceplfjmocaa
open Go.RowKit Go.BigFrame

theorem rshift_any (o p n : Int) (A : Option Addr) (c : Nat) (l : List Sp) (w : World) (h : SpsR w A l) (hn : l.length ≤ maxLen) (hk1 : -9223372036854775808 ≤ n) (hk2 : n ≤ 9223372036854775807) :
    Calls Try.prog 27 #[.agg #[.int .i64 o, .int .i64 p, .slice A l.length c], .int .i64 n] w fun e w' => CalE e w' w.heap.size (shO o p l n) (shP o p l n) (shL o p l n) (shE o p l n) ∧ Below w.heap.size w w' := by
  cases hv : validB o p l with
  | false =>
    obtain ⟨e1, e2, e3, e4⟩ := sh_inv (n := n) hv
    rw [e1, e2, e3, e4]
    exact rshift_inv o p n A c l w h hn hv
  | true =>
    cases hh : halfB (atF o p l n) with
    | false =>
      obtain ⟨e1, e2, e3, e4⟩ := sh_far hv hh
      rw [e1, e2, e3, e4]
      exact rshift_far o p n A c l w h hv hk1 hk2 hh
    | true =>
      obtain ⟨e1, e2, e3, e4⟩ := sh_ok hv hh
      rw [e1, e2, e3, e4]
      exact rshift_ok o p n A c l w h hv hh
end Go.Proofs.Ytnieceplfjmocaa
