/-
  The arguments of the laws, opened: integers of several sizes.
-/
import Derived.Test.YtmnhfaaaaejpaaaArr
import Derived.Test.YtmnhfaaaaejpaaaProg
import Derived.ProofKit
import Derived.OpenShut
import Derived.Lib.SmallJoins
import Derived.Deep.SlicePairs
namespace Go.Proofs.Ytmnhfaaaaejpaaa
open Go.ChangeShapes Go.WideShapes Go.ChangeAt Go.RowKit Go.Joins Go.Deep
set_option maxRecDepth 100000

section
variable {H : Type} {enc : TypeId × Value → H} {w : World} {base b0 : Nat} {spare : Nat → Bool} {held : Bool}

theorem open_i64 {v : Value} {d : DataW H} {p : List MemPlace} (hv : Value.okWide Try.prog w .any b0 3 v) (h : DataW.Trod enc Try.prog w base spare held 3 v d p) :
    ∃ n, v = .int .i64 n ∧ -9223372036854775808 ≤ n ∧ n ≤ 9223372036854775807 := by
  obtain ⟨n, rfl, _, _, hw⟩ := open_int (P := Try.prog) (t := 3) (k := .i64) Try.underlying3 hv h
  exact ⟨n, rfl, bounds_i64 hw⟩
theorem open_u8 {v : Value} {d : DataW H} {p : List MemPlace} (hv : Value.okWide Try.prog w .any b0 5 v) (h : DataW.Trod enc Try.prog w base spare held 5 v d p) :
    ∃ n, v = .int .u8 n ∧ 0 ≤ n ∧ n ≤ 255 := by
  obtain ⟨n, rfl, _, _, hw⟩ := open_int (P := Try.prog) (t := 5) (k := .u8) Try.underlying5 hv h
  have := bounds_u8 hw
  exact ⟨n, rfl, by omega, by omega⟩
theorem open_i16 {v : Value} {d : DataW H} {p : List MemPlace} (hv : Value.okWide Try.prog w .any b0 39 v) (h : DataW.Trod enc Try.prog w base spare held 39 v d p) :
    ∃ n, v = .int .i16 n ∧ -32768 ≤ n ∧ n ≤ 32767 := by
  obtain ⟨n, rfl, _, _, hw⟩ := open_int (P := Try.prog) (t := 39) (k := .i16) Try.underlying39 hv h
  have := bounds_i16 hw
  exact ⟨n, rfl, by omega, by omega⟩
end
theorem own : ownKnob Try.prog.godebug = none := by kernel_rfl
theorem laidOut : laidOutB Try.prog = true := by kernel_rfl
end Go.Proofs.Ytmnhfaaaaejpaaa
