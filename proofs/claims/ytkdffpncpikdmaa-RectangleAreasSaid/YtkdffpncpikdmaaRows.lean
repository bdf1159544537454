/-
  No cell of these rows narrows 'for every input' (looked for: loops, veiled, ifaces, maps, wideKeys, modest, calm, conditions, laid).
  DERIVED. THE GIVEN ROWS OF THIS SEAT. 8 by the template 'for every input the law returns true; each argument reads behind the call as it read before'; 0 by the template 'total and deterministic' (their statements: YtkdffpncpikdmaaTotals.lean).
  GIVEN WITH THE SEED: the statements are not yours to turn. If you find one false, say at which input.
  Laid BY PROGRAM, IN A SANDBOX (cutbox-rows.mjs): the forced cells as the released guide's own fill.sh prints them over the translation 25c194ca0c850af9… (all of the seat's roots in one cut). By AI agents, Wed Nov 11 2026. No macro, syntax, notation, axiom, sorry.
-/
import Derived.Test.YtkdffpncpikdmaaChecked
import GoSem.Claim
import GoSem.ClaimJoined
import GoSem.ClaimMapViews
import Derived.JoinedTies
import Derived.KernelRfl
namespace Go.Proofs.Ytkdffpncpikdmaa
/- THE CELL 'sum', in the pinned program and in every row, IS THE sha256 OF THE DUMP (.gsa) THAT YtkdffpncpikdmaaProg.lean LOADS. Nothing in Lean hashes anything: it is a label: what it is worth is what the hold of that sum in a sandbox is worth. -/
noncomputable def Try.pinned : Pinned := { name := "ytkdffpncpikdmaa", sum := "25c194ca0c850af9437a166f881b05f34e78aaa29743123d878e7068dc994a32", checked := Try.checked }
namespace Rows
def none {H : Type} : Left H := { results := [], args := [] }

/-- 'civiltimelaw35.RectangleCanonical': WHATEVER THE INPUT: true; the input reads as it did. -/
def rectangleCanonicalSpec : ChangeSpec := { name := "rectangleCanonical", fn := fun _ => fun
  | [d] => { results := [.lit (.bool true)], args := [d] }
  | _ => none }
def rectangleCanonicalRow : OpenClaim := { program := "ytkdffpncpikdmaa", sum := "25c194ca0c850af9437a166f881b05f34e78aaa29743123d878e7068dc994a32", func := "civiltime/civiltimelaw35.RectangleCanonical", spec := "rectangleCanonical", unfollowed := true, recurses := true, apart := false }
def RectangleCanonicalSaid : Prop := rectangleCanonicalRow.holds Try.pinned (OpenSpec.ofChange rectangleCanonicalSpec)

/-- ITS FALSE NEIGHBOUR: 'it returns false'. Refute it at one input. -/
def rectangleCanonicalWrong : ChangeSpec := { name := "rectangleCanonical", fn := fun _ => fun
  | [d] => { results := [.lit (.bool false)], args := [d] }
  | _ => none }
def RectangleCanonicalWrongFalsely : Prop := rectangleCanonicalRow.holds Try.pinned (OpenSpec.ofChange rectangleCanonicalWrong)

/-- 'civiltimelaw35.RectangleForm': WHATEVER THE INPUT: true; the input reads as it did. -/
def rectangleFormSpec : ChangeSpec := { name := "rectangleForm", fn := fun _ => fun
  | [d] => { results := [.lit (.bool true)], args := [d] }
  | _ => none }
def rectangleFormRow : OpenClaim := { program := "ytkdffpncpikdmaa", sum := "25c194ca0c850af9437a166f881b05f34e78aaa29743123d878e7068dc994a32", func := "civiltime/civiltimelaw35.RectangleForm", spec := "rectangleForm", unfollowed := true, recurses := true, apart := false }
def RectangleFormSaid : Prop := rectangleFormRow.holds Try.pinned (OpenSpec.ofChange rectangleFormSpec)

/-- ITS FALSE NEIGHBOUR: 'it returns false'. Refute it at one input. -/
def rectangleFormWrong : ChangeSpec := { name := "rectangleForm", fn := fun _ => fun
  | [d] => { results := [.lit (.bool false)], args := [d] }
  | _ => none }
def RectangleFormWrongFalsely : Prop := rectangleFormRow.holds Try.pinned (OpenSpec.ofChange rectangleFormWrong)

/-- 'civiltimelaw35.RectanglePointwise': WHATEVER THE INPUT: true; the input reads as it did. -/
def rectanglePointwiseSpec : ChangeSpec := { name := "rectanglePointwise", fn := fun _ => fun
  | [d1, d2] => { results := [.lit (.bool true)], args := [d1, d2] }
  | _ => none }
def rectanglePointwiseRow : OpenClaim := { program := "ytkdffpncpikdmaa", sum := "25c194ca0c850af9437a166f881b05f34e78aaa29743123d878e7068dc994a32", func := "civiltime/civiltimelaw35.RectanglePointwise", spec := "rectanglePointwise", unfollowed := true, recurses := true, apart := false }
def RectanglePointwiseSaid : Prop := rectanglePointwiseRow.holds Try.pinned (OpenSpec.ofChange rectanglePointwiseSpec)

/-- ITS FALSE NEIGHBOUR: 'it returns false'. Refute it at one input. -/
def rectanglePointwiseWrong : ChangeSpec := { name := "rectanglePointwise", fn := fun _ => fun
  | [d1, d2] => { results := [.lit (.bool false)], args := [d1, d2] }
  | _ => none }
def RectanglePointwiseWrongFalsely : Prop := rectanglePointwiseRow.holds Try.pinned (OpenSpec.ofChange rectanglePointwiseWrong)

/-- 'civiltimelaw35.RectangleOrder': WHATEVER THE INPUT: true; the input reads as it did. -/
def rectangleOrderSpec : ChangeSpec := { name := "rectangleOrder", fn := fun _ => fun
  | [d1, d2, d3, d4] => { results := [.lit (.bool true)], args := [d1, d2, d3, d4] }
  | _ => none }
def rectangleOrderRow : OpenClaim := { program := "ytkdffpncpikdmaa", sum := "25c194ca0c850af9437a166f881b05f34e78aaa29743123d878e7068dc994a32", func := "civiltime/civiltimelaw35.RectangleOrder", spec := "rectangleOrder", unfollowed := true, recurses := true, apart := false }
def RectangleOrderSaid : Prop := rectangleOrderRow.holds Try.pinned (OpenSpec.ofChange rectangleOrderSpec)

/-- ITS FALSE NEIGHBOUR: 'it returns false'. Refute it at one input. -/
def rectangleOrderWrong : ChangeSpec := { name := "rectangleOrder", fn := fun _ => fun
  | [d1, d2, d3, d4] => { results := [.lit (.bool false)], args := [d1, d2, d3, d4] }
  | _ => none }
def RectangleOrderWrongFalsely : Prop := rectangleOrderRow.holds Try.pinned (OpenSpec.ofChange rectangleOrderWrong)

/-- 'civiltimelaw35.RectangleOperations': WHATEVER THE INPUT: true; the input reads as it did. -/
def rectangleOperationsSpec : ChangeSpec := { name := "rectangleOperations", fn := fun _ => fun
  | [d1, d2] => { results := [.lit (.bool true)], args := [d1, d2] }
  | _ => none }
def rectangleOperationsRow : OpenClaim := { program := "ytkdffpncpikdmaa", sum := "25c194ca0c850af9437a166f881b05f34e78aaa29743123d878e7068dc994a32", func := "civiltime/civiltimelaw35.RectangleOperations", spec := "rectangleOperations", unfollowed := true, recurses := true, apart := false }
def RectangleOperationsSaid : Prop := rectangleOperationsRow.holds Try.pinned (OpenSpec.ofChange rectangleOperationsSpec)

/-- ITS FALSE NEIGHBOUR: 'it returns false'. Refute it at one input. -/
def rectangleOperationsWrong : ChangeSpec := { name := "rectangleOperations", fn := fun _ => fun
  | [d1, d2] => { results := [.lit (.bool false)], args := [d1, d2] }
  | _ => none }
def RectangleOperationsWrongFalsely : Prop := rectangleOperationsRow.holds Try.pinned (OpenSpec.ofChange rectangleOperationsWrong)

/-- 'civiltimelaw35.RectangleAlgebra': WHATEVER THE INPUT: true; the input reads as it did. -/
def rectangleAlgebraSpec : ChangeSpec := { name := "rectangleAlgebra", fn := fun _ => fun
  | [d1, d2, d3] => { results := [.lit (.bool true)], args := [d1, d2, d3] }
  | _ => none }
def rectangleAlgebraRow : OpenClaim := { program := "ytkdffpncpikdmaa", sum := "25c194ca0c850af9437a166f881b05f34e78aaa29743123d878e7068dc994a32", func := "civiltime/civiltimelaw35.RectangleAlgebra", spec := "rectangleAlgebra", unfollowed := true, recurses := true, apart := false }
def RectangleAlgebraSaid : Prop := rectangleAlgebraRow.holds Try.pinned (OpenSpec.ofChange rectangleAlgebraSpec)

/-- ITS FALSE NEIGHBOUR: 'it returns false'. Refute it at one input. -/
def rectangleAlgebraWrong : ChangeSpec := { name := "rectangleAlgebra", fn := fun _ => fun
  | [d1, d2, d3] => { results := [.lit (.bool false)], args := [d1, d2, d3] }
  | _ => none }
def RectangleAlgebraWrongFalsely : Prop := rectangleAlgebraRow.holds Try.pinned (OpenSpec.ofChange rectangleAlgebraWrong)

/-- 'civiltimelaw35.RectangleSlices': WHATEVER THE INPUT: true; the input reads as it did. -/
def rectangleSlicesSpec : ChangeSpec := { name := "rectangleSlices", fn := fun _ => fun
  | [d1, d2, d3] => { results := [.lit (.bool true)], args := [d1, d2, d3] }
  | _ => none }
def rectangleSlicesRow : OpenClaim := { program := "ytkdffpncpikdmaa", sum := "25c194ca0c850af9437a166f881b05f34e78aaa29743123d878e7068dc994a32", func := "civiltime/civiltimelaw35.RectangleSlices", spec := "rectangleSlices", unfollowed := true, recurses := true, apart := false }
def RectangleSlicesSaid : Prop := rectangleSlicesRow.holds Try.pinned (OpenSpec.ofChange rectangleSlicesSpec)

/-- ITS FALSE NEIGHBOUR: 'it returns false'. Refute it at one input. -/
def rectangleSlicesWrong : ChangeSpec := { name := "rectangleSlices", fn := fun _ => fun
  | [d1, d2, d3] => { results := [.lit (.bool false)], args := [d1, d2, d3] }
  | _ => none }
def RectangleSlicesWrongFalsely : Prop := rectangleSlicesRow.holds Try.pinned (OpenSpec.ofChange rectangleSlicesWrong)

/-- 'civiltimelaw35.RectangleAreas': WHATEVER THE INPUT: true; the input reads as it did. -/
def rectangleAreasSpec : ChangeSpec := { name := "rectangleAreas", fn := fun _ => fun
  | [d1, d2] => { results := [.lit (.bool true)], args := [d1, d2] }
  | _ => none }
def rectangleAreasRow : OpenClaim := { program := "ytkdffpncpikdmaa", sum := "25c194ca0c850af9437a166f881b05f34e78aaa29743123d878e7068dc994a32", func := "civiltime/civiltimelaw35.RectangleAreas", spec := "rectangleAreas", inPlace := ["math/bits.Add64"], unfollowed := true, recurses := true, apart := false }
def RectangleAreasSaid : Prop := rectangleAreasRow.holds Try.pinned (OpenSpec.ofChange rectangleAreasSpec)

/-- ITS FALSE NEIGHBOUR: 'it returns false'. Refute it at one input. -/
def rectangleAreasWrong : ChangeSpec := { name := "rectangleAreas", fn := fun _ => fun
  | [d1, d2] => { results := [.lit (.bool false)], args := [d1, d2] }
  | _ => none }
def RectangleAreasWrongFalsely : Prop := rectangleAreasRow.holds Try.pinned (OpenSpec.ofChange rectangleAreasWrong)

/- THE SECOND FORM. 'bulk': how many values and letters a reading holds, each counted each time it is reached (what is shared counts as often as it is met; a slice's spare places count too). A statement '..UptoSaid' is the law's where the arguments, and the package variables that the reading takes, are together of bulk at most 1048576: NARROWER than '..Said'. Prove '..Said' where nothing that the law and all that it calls make is longer than what came in: it says more and counts as full. Else prove '..UptoSaid'. A law counts once. -/
mutual
def uptoBulk {H : Type} : DataW H → Nat
  | .lit (.string bytes) => bytes.length + 1
  | .lit _ => 1
  | .nil => 1
  | .ptr d => uptoBulk d + 1
  | .slice elems spare => uptoBulkAll elems + uptoBulkAll spare + 1
  | .agg parts => uptoBulkAll parts + 1
  | .iface _ d => uptoBulk d + 1
  | .map entries => uptoBulkEntries entries + 1
  | .held _ => 1
def uptoBulkAll {H : Type} : List (DataW H) → Nat
  | [] => 0
  | d :: r => uptoBulk d + uptoBulkAll r
def uptoBulkEntries {H : Type} : List (Lit × DataW H) → Nat
  | [] => 0
  | x :: r => uptoBulkEntry x + uptoBulkEntries r
def uptoBulkEntry {H : Type} : Lit × DataW H → Nat
  | (.string bytes, d) => bytes.length + uptoBulk d + 1
  | (_, d) => uptoBulk d + 1
 end
def uptoSmall : (H : Type) → List (DataW H) → Bool := fun _ ds => decide (uptoBulkAll ds ≤ 1048576)
def OpenSpec.upto (s : _root_.Go.ChangeSpec) : _root_.Go.OpenSpec := { _root_.Go.OpenSpec.ofChange s with cond := some uptoSmall }

/-- 'civiltimelaw35.RectangleCanonical', WHERE WHAT IT READS IS OF BULK AT MOST 1048576: true; the input reads as it did. -/
def rectangleCanonicalUptoRow : OpenClaim := { program := "ytkdffpncpikdmaa", sum := "25c194ca0c850af9437a166f881b05f34e78aaa29743123d878e7068dc994a32", func := "civiltime/civiltimelaw35.RectangleCanonical", spec := "rectangleCanonical", unfollowed := true, recurses := true, apart := false, narrowed := true }
def RectangleCanonicalUptoSaid : Prop := rectangleCanonicalUptoRow.holds Try.pinned (OpenSpec.upto rectangleCanonicalSpec)

/-- 'civiltimelaw35.RectangleForm', WHERE WHAT IT READS IS OF BULK AT MOST 1048576: true; the input reads as it did. -/
def rectangleFormUptoRow : OpenClaim := { program := "ytkdffpncpikdmaa", sum := "25c194ca0c850af9437a166f881b05f34e78aaa29743123d878e7068dc994a32", func := "civiltime/civiltimelaw35.RectangleForm", spec := "rectangleForm", unfollowed := true, recurses := true, apart := false, narrowed := true }
def RectangleFormUptoSaid : Prop := rectangleFormUptoRow.holds Try.pinned (OpenSpec.upto rectangleFormSpec)

/-- 'civiltimelaw35.RectanglePointwise', WHERE WHAT IT READS IS OF BULK AT MOST 1048576: true; the input reads as it did. -/
def rectanglePointwiseUptoRow : OpenClaim := { program := "ytkdffpncpikdmaa", sum := "25c194ca0c850af9437a166f881b05f34e78aaa29743123d878e7068dc994a32", func := "civiltime/civiltimelaw35.RectanglePointwise", spec := "rectanglePointwise", unfollowed := true, recurses := true, apart := false, narrowed := true }
def RectanglePointwiseUptoSaid : Prop := rectanglePointwiseUptoRow.holds Try.pinned (OpenSpec.upto rectanglePointwiseSpec)

/-- 'civiltimelaw35.RectangleOrder', WHERE WHAT IT READS IS OF BULK AT MOST 1048576: true; the input reads as it did. -/
def rectangleOrderUptoRow : OpenClaim := { program := "ytkdffpncpikdmaa", sum := "25c194ca0c850af9437a166f881b05f34e78aaa29743123d878e7068dc994a32", func := "civiltime/civiltimelaw35.RectangleOrder", spec := "rectangleOrder", unfollowed := true, recurses := true, apart := false, narrowed := true }
def RectangleOrderUptoSaid : Prop := rectangleOrderUptoRow.holds Try.pinned (OpenSpec.upto rectangleOrderSpec)

/-- 'civiltimelaw35.RectangleOperations', WHERE WHAT IT READS IS OF BULK AT MOST 1048576: true; the input reads as it did. -/
def rectangleOperationsUptoRow : OpenClaim := { program := "ytkdffpncpikdmaa", sum := "25c194ca0c850af9437a166f881b05f34e78aaa29743123d878e7068dc994a32", func := "civiltime/civiltimelaw35.RectangleOperations", spec := "rectangleOperations", unfollowed := true, recurses := true, apart := false, narrowed := true }
def RectangleOperationsUptoSaid : Prop := rectangleOperationsUptoRow.holds Try.pinned (OpenSpec.upto rectangleOperationsSpec)

/-- 'civiltimelaw35.RectangleAlgebra', WHERE WHAT IT READS IS OF BULK AT MOST 1048576: true; the input reads as it did. -/
def rectangleAlgebraUptoRow : OpenClaim := { program := "ytkdffpncpikdmaa", sum := "25c194ca0c850af9437a166f881b05f34e78aaa29743123d878e7068dc994a32", func := "civiltime/civiltimelaw35.RectangleAlgebra", spec := "rectangleAlgebra", unfollowed := true, recurses := true, apart := false, narrowed := true }
def RectangleAlgebraUptoSaid : Prop := rectangleAlgebraUptoRow.holds Try.pinned (OpenSpec.upto rectangleAlgebraSpec)

/-- 'civiltimelaw35.RectangleSlices', WHERE WHAT IT READS IS OF BULK AT MOST 1048576: true; the input reads as it did. -/
def rectangleSlicesUptoRow : OpenClaim := { program := "ytkdffpncpikdmaa", sum := "25c194ca0c850af9437a166f881b05f34e78aaa29743123d878e7068dc994a32", func := "civiltime/civiltimelaw35.RectangleSlices", spec := "rectangleSlices", unfollowed := true, recurses := true, apart := false, narrowed := true }
def RectangleSlicesUptoSaid : Prop := rectangleSlicesUptoRow.holds Try.pinned (OpenSpec.upto rectangleSlicesSpec)

/-- 'civiltimelaw35.RectangleAreas', WHERE WHAT IT READS IS OF BULK AT MOST 1048576: true; the input reads as it did. -/
def rectangleAreasUptoRow : OpenClaim := { program := "ytkdffpncpikdmaa", sum := "25c194ca0c850af9437a166f881b05f34e78aaa29743123d878e7068dc994a32", func := "civiltime/civiltimelaw35.RectangleAreas", spec := "rectangleAreas", inPlace := ["math/bits.Add64"], unfollowed := true, recurses := true, apart := false, narrowed := true }
def RectangleAreasUptoSaid : Prop := rectangleAreasUptoRow.holds Try.pinned (OpenSpec.upto rectangleAreasSpec)

end Rows
end Go.Proofs.Ytkdffpncpikdmaa
