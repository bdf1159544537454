/-
  granule.Scale and the reference's, any input.
-/
import Derived.Test.YtnieceplfjmocaaRScaleOk
namespace Go.Proofs.Ytnieceplfjmocaa
open Go.RowKit Go.BigFrame

theorem scale_any (o p n : Int) (A : Option Addr) (c : Nat) (l : List Sp) (w : World) (h : SpsR w A l) (hn : l.length ≤ maxLen) (hk2 : n ≤ 9223372036854775807) :
    Calls Try.prog 34 #[.agg #[.int .i64 o, .int .i64 p, .slice A l.length c], .int .i64 n] w fun e w' => CalE e w' w.heap.size (scO o p l n) (scP o p l n) (scL o p l n) (scE o p l n) ∧ Below w.heap.size w w' := by
  by_cases hv : validB o p l = true
  · by_cases h1 : n < 1
    · obtain ⟨e1, e2, e3, e4⟩ := sc_err (sc_low (o := o) hv h1) (by decide)
      rw [e1, e2, e3, e4]
      exact scale_low o p n A c l w h hn hv h1
    · by_cases h2 : 12622780800 / p < n
      · obtain ⟨e1, e2, e3, e4⟩ := sc_err (sc_big (o := o) hv h1 h2) (by decide)
        rw [e1, e2, e3, e4]
        exact scale_big o p n A c l w h hn hv h1 h2
      · cases h3 : halfB (o * n) with
        | false =>
          obtain ⟨e1, e2, e3, e4⟩ := sc_err (sc_half hv h1 h2 h3) (by decide)
          rw [e1, e2, e3, e4]
          exact scale_half o p n A c l w h hn hv h1 hk2 h2 h3
        | true =>
          have hs := sc_zero hv h1 h2 h3
          obtain ⟨e2, e3, e4⟩ := sc_ok hs
          rw [hs, e2, e3, e4]
          exact scale_ok o p n A c l w h hs
  · have hv' : validB o p l = false := by simpa using hv
    obtain ⟨e1, e2, e3, e4⟩ := sc_err (sc_inv (n := n) hv') (by decide)
    rw [e1, e2, e3, e4]
    exact scale_inv o p n A c l w h hn hv'

theorem rscale_any (o p n : Int) (A : Option Addr) (c : Nat) (l : List Sp) (w : World) (h : SpsR w A l) (hn : l.length ≤ maxLen) :
    Calls Try.prog 35 #[.agg #[.int .i64 o, .int .i64 p, .slice A l.length c], .int .i64 n] w fun e w' => CalE e w' w.heap.size (scO o p l n) (scP o p l n) (scL o p l n) (scE o p l n) ∧ Below w.heap.size w w' := by
  by_cases hv : validB o p l = true
  · by_cases h1 : n < 1
    · obtain ⟨e1, e2, e3, e4⟩ := sc_err (sc_low (o := o) hv h1) (by decide)
      rw [e1, e2, e3, e4]
      exact rscale_low o p n A c l w h hn hv h1
    · by_cases h2 : 12622780800 / p < n
      · obtain ⟨e1, e2, e3, e4⟩ := sc_err (sc_big (o := o) hv h1 h2) (by decide)
        rw [e1, e2, e3, e4]
        exact rscale_big o p n A c l w h hn hv h1 h2
      · cases h3 : halfB (o * n) with
        | false =>
          obtain ⟨e1, e2, e3, e4⟩ := sc_err (sc_half hv h1 h2 h3) (by decide)
          rw [e1, e2, e3, e4]
          exact rscale_half o p n A c l w h hn hv h1 h2 h3
        | true =>
          have hs := sc_zero hv h1 h2 h3
          obtain ⟨e2, e3, e4⟩ := sc_ok hs
          rw [hs, e2, e3, e4]
          exact rscale_ok o p n A c l w h hs
  · have hv' : validB o p l = false := by simpa using hv
    obtain ⟨e1, e2, e3, e4⟩ := sc_err (sc_inv (n := n) hv') (by decide)
    rw [e1, e2, e3, e4]
    exact rscale_inv o p n A c l w h hn hv'
end Go.Proofs.Ytnieceplfjmocaa
