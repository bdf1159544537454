/-
  No cell of these rows narrows 'for every input' (looked for: loops, veiled, ifaces, maps, wideKeys, modest, calm, conditions, laid).
  DERIVED. THE GIVEN ROWS OF THIS SEAT. 10 by the template 'for every input the law returns true; each argument reads behind the call as it read before'; 0 by the template 'total and deterministic' (their statements: YtoklfjkanipjkaaTotals.lean).
  GIVEN WITH THE SEED: the statements are not yours to turn. If you find one false, say at which input.
  Laid BY PROGRAM, IN A SANDBOX (cutbox-rows.mjs): the forced cells as the released guide's own fill.sh prints them over the translation 98e4acc2f7c4d4a5… (all of the seat's roots in one cut). By AI agents, Wed Nov 11 2026. No macro, syntax, notation, axiom, sorry.
-/
import Derived.Test.YtoklfjkanipjkaaChecked
import GoSem.Claim
import GoSem.ClaimJoined
import GoSem.ClaimMapViews
import Derived.JoinedTies
import Derived.KernelRfl
namespace Go.Proofs.Ytoklfjkanipjkaa
/- THE CELL 'sum', in the pinned program and in every row, IS THE sha256 OF THE DUMP (.gsa) THAT YtoklfjkanipjkaaProg.lean LOADS. Nothing in Lean hashes anything: it is a label: what it is worth is what the hold of that sum in a sandbox is worth. -/
noncomputable def Try.pinned : Pinned := { name := "ytoklfjkanipjkaa", sum := "98e4acc2f7c4d4a5349b7ee9093c87192c01951a7fa202a56b7a1eb30b2a7d4a", checked := Try.checked }
namespace Rows
def none {H : Type} : Left H := { results := [], args := [] }

/-- 'civiltimelaw16.GroupGroups': WHATEVER THE INPUT: true; the input reads as it did. -/
def groupGroupsSpec : ChangeSpec := { name := "groupGroups", fn := fun _ => fun
  | [d1, d2, d3] => { results := [.lit (.bool true)], args := [d1, d2, d3] }
  | _ => none }
def groupGroupsRow : OpenClaim := { program := "ytoklfjkanipjkaa", sum := "98e4acc2f7c4d4a5349b7ee9093c87192c01951a7fa202a56b7a1eb30b2a7d4a", func := "civiltime/civiltimelaw16.GroupGroups", spec := "groupGroups", unfollowed := true, recurses := true, apart := false }
def GroupGroupsSaid : Prop := groupGroupsRow.holds Try.pinned (OpenSpec.ofChange groupGroupsSpec)

/-- ITS FALSE NEIGHBOUR: 'it returns false'. Refute it at one input. -/
def groupGroupsWrong : ChangeSpec := { name := "groupGroups", fn := fun _ => fun
  | [d1, d2, d3] => { results := [.lit (.bool false)], args := [d1, d2, d3] }
  | _ => none }
def GroupGroupsWrongFalsely : Prop := groupGroupsRow.holds Try.pinned (OpenSpec.ofChange groupGroupsWrong)

/-- 'civiltimelaw16.GroupSplits': WHATEVER THE INPUT: true; the input reads as it did. -/
def groupSplitsSpec : ChangeSpec := { name := "groupSplits", fn := fun _ => fun
  | [d1, d2] => { results := [.lit (.bool true)], args := [d1, d2] }
  | _ => none }
def groupSplitsRow : OpenClaim := { program := "ytoklfjkanipjkaa", sum := "98e4acc2f7c4d4a5349b7ee9093c87192c01951a7fa202a56b7a1eb30b2a7d4a", func := "civiltime/civiltimelaw16.GroupSplits", spec := "groupSplits", unfollowed := true, recurses := true, apart := false }
def GroupSplitsSaid : Prop := groupSplitsRow.holds Try.pinned (OpenSpec.ofChange groupSplitsSpec)

/-- ITS FALSE NEIGHBOUR: 'it returns false'. Refute it at one input. -/
def groupSplitsWrong : ChangeSpec := { name := "groupSplits", fn := fun _ => fun
  | [d1, d2] => { results := [.lit (.bool false)], args := [d1, d2] }
  | _ => none }
def GroupSplitsWrongFalsely : Prop := groupSplitsRow.holds Try.pinned (OpenSpec.ofChange groupSplitsWrong)

/-- 'civiltimelaw16.GroupPicks': WHATEVER THE INPUT: true; the input reads as it did. -/
def groupPicksSpec : ChangeSpec := { name := "groupPicks", fn := fun _ => fun
  | [d1, d2, d3] => { results := [.lit (.bool true)], args := [d1, d2, d3] }
  | _ => none }
def groupPicksRow : OpenClaim := { program := "ytoklfjkanipjkaa", sum := "98e4acc2f7c4d4a5349b7ee9093c87192c01951a7fa202a56b7a1eb30b2a7d4a", func := "civiltime/civiltimelaw16.GroupPicks", spec := "groupPicks", unfollowed := true, recurses := true, apart := false }
def GroupPicksSaid : Prop := groupPicksRow.holds Try.pinned (OpenSpec.ofChange groupPicksSpec)

/-- ITS FALSE NEIGHBOUR: 'it returns false'. Refute it at one input. -/
def groupPicksWrong : ChangeSpec := { name := "groupPicks", fn := fun _ => fun
  | [d1, d2, d3] => { results := [.lit (.bool false)], args := [d1, d2, d3] }
  | _ => none }
def GroupPicksWrongFalsely : Prop := groupPicksRow.holds Try.pinned (OpenSpec.ofChange groupPicksWrong)

/-- 'civiltimelaw16.GroupCustoms': WHATEVER THE INPUT: true; the input reads as it did. -/
def groupCustomsSpec : ChangeSpec := { name := "groupCustoms", fn := fun _ => fun
  | [d1, d2, d3, d4] => { results := [.lit (.bool true)], args := [d1, d2, d3, d4] }
  | _ => none }
def groupCustomsRow : OpenClaim := { program := "ytoklfjkanipjkaa", sum := "98e4acc2f7c4d4a5349b7ee9093c87192c01951a7fa202a56b7a1eb30b2a7d4a", func := "civiltime/civiltimelaw16.GroupCustoms", spec := "groupCustoms", unfollowed := true, recurses := true, apart := false }
def GroupCustomsSaid : Prop := groupCustomsRow.holds Try.pinned (OpenSpec.ofChange groupCustomsSpec)

/-- ITS FALSE NEIGHBOUR: 'it returns false'. Refute it at one input. -/
def groupCustomsWrong : ChangeSpec := { name := "groupCustoms", fn := fun _ => fun
  | [d1, d2, d3, d4] => { results := [.lit (.bool false)], args := [d1, d2, d3, d4] }
  | _ => none }
def GroupCustomsWrongFalsely : Prop := groupCustomsRow.holds Try.pinned (OpenSpec.ofChange groupCustomsWrong)

/-- 'civiltimelaw16.GroupUndone': WHATEVER THE INPUT: true; the input reads as it did. -/
def groupUndoneSpec : ChangeSpec := { name := "groupUndone", fn := fun _ => fun
  | [d1, d2, d3] => { results := [.lit (.bool true)], args := [d1, d2, d3] }
  | _ => none }
def groupUndoneRow : OpenClaim := { program := "ytoklfjkanipjkaa", sum := "98e4acc2f7c4d4a5349b7ee9093c87192c01951a7fa202a56b7a1eb30b2a7d4a", func := "civiltime/civiltimelaw16.GroupUndone", spec := "groupUndone", unfollowed := true, recurses := true, apart := false }
def GroupUndoneSaid : Prop := groupUndoneRow.holds Try.pinned (OpenSpec.ofChange groupUndoneSpec)

/-- ITS FALSE NEIGHBOUR: 'it returns false'. Refute it at one input. -/
def groupUndoneWrong : ChangeSpec := { name := "groupUndone", fn := fun _ => fun
  | [d1, d2, d3] => { results := [.lit (.bool false)], args := [d1, d2, d3] }
  | _ => none }
def GroupUndoneWrongFalsely : Prop := groupUndoneRow.holds Try.pinned (OpenSpec.ofChange groupUndoneWrong)

/-- 'civiltimelaw16.GroupHulls': WHATEVER THE INPUT: true; the input reads as it did. -/
def groupHullsSpec : ChangeSpec := { name := "groupHulls", fn := fun _ => fun
  | [d1, d2, d3, d4] => { results := [.lit (.bool true)], args := [d1, d2, d3, d4] }
  | _ => none }
def groupHullsRow : OpenClaim := { program := "ytoklfjkanipjkaa", sum := "98e4acc2f7c4d4a5349b7ee9093c87192c01951a7fa202a56b7a1eb30b2a7d4a", func := "civiltime/civiltimelaw16.GroupHulls", spec := "groupHulls", unfollowed := true, recurses := true, apart := false }
def GroupHullsSaid : Prop := groupHullsRow.holds Try.pinned (OpenSpec.ofChange groupHullsSpec)

/-- ITS FALSE NEIGHBOUR: 'it returns false'. Refute it at one input. -/
def groupHullsWrong : ChangeSpec := { name := "groupHulls", fn := fun _ => fun
  | [d1, d2, d3, d4] => { results := [.lit (.bool false)], args := [d1, d2, d3, d4] }
  | _ => none }
def GroupHullsWrongFalsely : Prop := groupHullsRow.holds Try.pinned (OpenSpec.ofChange groupHullsWrong)

/-- 'civiltimelaw16.GroupInside': WHATEVER THE INPUT: true; the input reads as it did. -/
def groupInsideSpec : ChangeSpec := { name := "groupInside", fn := fun _ => fun
  | [d1, d2, d3] => { results := [.lit (.bool true)], args := [d1, d2, d3] }
  | _ => none }
def groupInsideRow : OpenClaim := { program := "ytoklfjkanipjkaa", sum := "98e4acc2f7c4d4a5349b7ee9093c87192c01951a7fa202a56b7a1eb30b2a7d4a", func := "civiltime/civiltimelaw16.GroupInside", spec := "groupInside", unfollowed := true, recurses := true, apart := false }
def GroupInsideSaid : Prop := groupInsideRow.holds Try.pinned (OpenSpec.ofChange groupInsideSpec)

/-- ITS FALSE NEIGHBOUR: 'it returns false'. Refute it at one input. -/
def groupInsideWrong : ChangeSpec := { name := "groupInside", fn := fun _ => fun
  | [d1, d2, d3] => { results := [.lit (.bool false)], args := [d1, d2, d3] }
  | _ => none }
def GroupInsideWrongFalsely : Prop := groupInsideRow.holds Try.pinned (OpenSpec.ofChange groupInsideWrong)

/-- 'civiltimelaw16.GroupMerges': WHATEVER THE INPUT: true; the input reads as it did. -/
def groupMergesSpec : ChangeSpec := { name := "groupMerges", fn := fun _ => fun
  | [d1, d2] => { results := [.lit (.bool true)], args := [d1, d2] }
  | _ => none }
def groupMergesRow : OpenClaim := { program := "ytoklfjkanipjkaa", sum := "98e4acc2f7c4d4a5349b7ee9093c87192c01951a7fa202a56b7a1eb30b2a7d4a", func := "civiltime/civiltimelaw16.GroupMerges", spec := "groupMerges", unfollowed := true, recurses := true, apart := false }
def GroupMergesSaid : Prop := groupMergesRow.holds Try.pinned (OpenSpec.ofChange groupMergesSpec)

/-- ITS FALSE NEIGHBOUR: 'it returns false'. Refute it at one input. -/
def groupMergesWrong : ChangeSpec := { name := "groupMerges", fn := fun _ => fun
  | [d1, d2] => { results := [.lit (.bool false)], args := [d1, d2] }
  | _ => none }
def GroupMergesWrongFalsely : Prop := groupMergesRow.holds Try.pinned (OpenSpec.ofChange groupMergesWrong)

/-- 'civiltimelaw16.GroupRestricts': WHATEVER THE INPUT: true; the input reads as it did. -/
def groupRestrictsSpec : ChangeSpec := { name := "groupRestricts", fn := fun _ => fun
  | [d1, d2] => { results := [.lit (.bool true)], args := [d1, d2] }
  | _ => none }
def groupRestrictsRow : OpenClaim := { program := "ytoklfjkanipjkaa", sum := "98e4acc2f7c4d4a5349b7ee9093c87192c01951a7fa202a56b7a1eb30b2a7d4a", func := "civiltime/civiltimelaw16.GroupRestricts", spec := "groupRestricts", unfollowed := true, recurses := true, apart := false }
def GroupRestrictsSaid : Prop := groupRestrictsRow.holds Try.pinned (OpenSpec.ofChange groupRestrictsSpec)

/-- ITS FALSE NEIGHBOUR: 'it returns false'. Refute it at one input. -/
def groupRestrictsWrong : ChangeSpec := { name := "groupRestricts", fn := fun _ => fun
  | [d1, d2] => { results := [.lit (.bool false)], args := [d1, d2] }
  | _ => none }
def GroupRestrictsWrongFalsely : Prop := groupRestrictsRow.holds Try.pinned (OpenSpec.ofChange groupRestrictsWrong)

/-- 'civiltimelaw16.GroupKeeps': WHATEVER THE INPUT: true; the input reads as it did. -/
def groupKeepsSpec : ChangeSpec := { name := "groupKeeps", fn := fun _ => fun
  | [d1, d2, d3, d4, d5] => { results := [.lit (.bool true)], args := [d1, d2, d3, d4, d5] }
  | _ => none }
def groupKeepsRow : OpenClaim := { program := "ytoklfjkanipjkaa", sum := "98e4acc2f7c4d4a5349b7ee9093c87192c01951a7fa202a56b7a1eb30b2a7d4a", func := "civiltime/civiltimelaw16.GroupKeeps", spec := "groupKeeps", unfollowed := true, recurses := true, apart := false }
def GroupKeepsSaid : Prop := groupKeepsRow.holds Try.pinned (OpenSpec.ofChange groupKeepsSpec)

/-- ITS FALSE NEIGHBOUR: 'it returns false'. Refute it at one input. -/
def groupKeepsWrong : ChangeSpec := { name := "groupKeeps", fn := fun _ => fun
  | [d1, d2, d3, d4, d5] => { results := [.lit (.bool false)], args := [d1, d2, d3, d4, d5] }
  | _ => none }
def GroupKeepsWrongFalsely : Prop := groupKeepsRow.holds Try.pinned (OpenSpec.ofChange groupKeepsWrong)

/- THE SECOND FORM. 'bulk': how many values and letters a reading holds, each counted each time it is reached (what is shared counts as often as it is met; a slice's spare places count too). A statement '..UptoSaid' is the law's where the arguments, and the package variables that the reading takes, are together of bulk at most 1048576: NARROWER than '..Said'. Prove '..Said' where nothing that the law and all that it calls make is longer than what came in: it says more and counts as full. Else prove '..UptoSaid'. A law counts once. -/
mutual
def uptoBulk {H : Type} : DataW H → Nat
  | .lit (.string bytes) => bytes.length + 1
  | .lit _ => 1
  | .nil => 1
  | .ptr d => uptoBulk d + 1
  | .slice elems spare => uptoBulkAll elems + uptoBulkAll spare + 1
  | .agg parts => uptoBulkAll parts + 1
  | .iface _ d => uptoBulk d + 1
  | .map entries => uptoBulkEntries entries + 1
  | .held _ => 1
def uptoBulkAll {H : Type} : List (DataW H) → Nat
  | [] => 0
  | d :: r => uptoBulk d + uptoBulkAll r
def uptoBulkEntries {H : Type} : List (Lit × DataW H) → Nat
  | [] => 0
  | x :: r => uptoBulkEntry x + uptoBulkEntries r
def uptoBulkEntry {H : Type} : Lit × DataW H → Nat
  | (.string bytes, d) => bytes.length + uptoBulk d + 1
  | (_, d) => uptoBulk d + 1
 end
def uptoSmall : (H : Type) → List (DataW H) → Bool := fun _ ds => decide (uptoBulkAll ds ≤ 1048576)
def OpenSpec.upto (s : _root_.Go.ChangeSpec) : _root_.Go.OpenSpec := { _root_.Go.OpenSpec.ofChange s with cond := some uptoSmall }

/-- 'civiltimelaw16.GroupGroups', WHERE WHAT IT READS IS OF BULK AT MOST 1048576: true; the input reads as it did. -/
def groupGroupsUptoRow : OpenClaim := { program := "ytoklfjkanipjkaa", sum := "98e4acc2f7c4d4a5349b7ee9093c87192c01951a7fa202a56b7a1eb30b2a7d4a", func := "civiltime/civiltimelaw16.GroupGroups", spec := "groupGroups", unfollowed := true, recurses := true, apart := false, narrowed := true }
def GroupGroupsUptoSaid : Prop := groupGroupsUptoRow.holds Try.pinned (OpenSpec.upto groupGroupsSpec)

/-- 'civiltimelaw16.GroupSplits', WHERE WHAT IT READS IS OF BULK AT MOST 1048576: true; the input reads as it did. -/
def groupSplitsUptoRow : OpenClaim := { program := "ytoklfjkanipjkaa", sum := "98e4acc2f7c4d4a5349b7ee9093c87192c01951a7fa202a56b7a1eb30b2a7d4a", func := "civiltime/civiltimelaw16.GroupSplits", spec := "groupSplits", unfollowed := true, recurses := true, apart := false, narrowed := true }
def GroupSplitsUptoSaid : Prop := groupSplitsUptoRow.holds Try.pinned (OpenSpec.upto groupSplitsSpec)

/-- 'civiltimelaw16.GroupPicks', WHERE WHAT IT READS IS OF BULK AT MOST 1048576: true; the input reads as it did. -/
def groupPicksUptoRow : OpenClaim := { program := "ytoklfjkanipjkaa", sum := "98e4acc2f7c4d4a5349b7ee9093c87192c01951a7fa202a56b7a1eb30b2a7d4a", func := "civiltime/civiltimelaw16.GroupPicks", spec := "groupPicks", unfollowed := true, recurses := true, apart := false, narrowed := true }
def GroupPicksUptoSaid : Prop := groupPicksUptoRow.holds Try.pinned (OpenSpec.upto groupPicksSpec)

/-- 'civiltimelaw16.GroupCustoms', WHERE WHAT IT READS IS OF BULK AT MOST 1048576: true; the input reads as it did. -/
def groupCustomsUptoRow : OpenClaim := { program := "ytoklfjkanipjkaa", sum := "98e4acc2f7c4d4a5349b7ee9093c87192c01951a7fa202a56b7a1eb30b2a7d4a", func := "civiltime/civiltimelaw16.GroupCustoms", spec := "groupCustoms", unfollowed := true, recurses := true, apart := false, narrowed := true }
def GroupCustomsUptoSaid : Prop := groupCustomsUptoRow.holds Try.pinned (OpenSpec.upto groupCustomsSpec)

/-- 'civiltimelaw16.GroupUndone', WHERE WHAT IT READS IS OF BULK AT MOST 1048576: true; the input reads as it did. -/
def groupUndoneUptoRow : OpenClaim := { program := "ytoklfjkanipjkaa", sum := "98e4acc2f7c4d4a5349b7ee9093c87192c01951a7fa202a56b7a1eb30b2a7d4a", func := "civiltime/civiltimelaw16.GroupUndone", spec := "groupUndone", unfollowed := true, recurses := true, apart := false, narrowed := true }
def GroupUndoneUptoSaid : Prop := groupUndoneUptoRow.holds Try.pinned (OpenSpec.upto groupUndoneSpec)

/-- 'civiltimelaw16.GroupHulls', WHERE WHAT IT READS IS OF BULK AT MOST 1048576: true; the input reads as it did. -/
def groupHullsUptoRow : OpenClaim := { program := "ytoklfjkanipjkaa", sum := "98e4acc2f7c4d4a5349b7ee9093c87192c01951a7fa202a56b7a1eb30b2a7d4a", func := "civiltime/civiltimelaw16.GroupHulls", spec := "groupHulls", unfollowed := true, recurses := true, apart := false, narrowed := true }
def GroupHullsUptoSaid : Prop := groupHullsUptoRow.holds Try.pinned (OpenSpec.upto groupHullsSpec)

/-- 'civiltimelaw16.GroupInside', WHERE WHAT IT READS IS OF BULK AT MOST 1048576: true; the input reads as it did. -/
def groupInsideUptoRow : OpenClaim := { program := "ytoklfjkanipjkaa", sum := "98e4acc2f7c4d4a5349b7ee9093c87192c01951a7fa202a56b7a1eb30b2a7d4a", func := "civiltime/civiltimelaw16.GroupInside", spec := "groupInside", unfollowed := true, recurses := true, apart := false, narrowed := true }
def GroupInsideUptoSaid : Prop := groupInsideUptoRow.holds Try.pinned (OpenSpec.upto groupInsideSpec)

/-- 'civiltimelaw16.GroupMerges', WHERE WHAT IT READS IS OF BULK AT MOST 1048576: true; the input reads as it did. -/
def groupMergesUptoRow : OpenClaim := { program := "ytoklfjkanipjkaa", sum := "98e4acc2f7c4d4a5349b7ee9093c87192c01951a7fa202a56b7a1eb30b2a7d4a", func := "civiltime/civiltimelaw16.GroupMerges", spec := "groupMerges", unfollowed := true, recurses := true, apart := false, narrowed := true }
def GroupMergesUptoSaid : Prop := groupMergesUptoRow.holds Try.pinned (OpenSpec.upto groupMergesSpec)

/-- 'civiltimelaw16.GroupRestricts', WHERE WHAT IT READS IS OF BULK AT MOST 1048576: true; the input reads as it did. -/
def groupRestrictsUptoRow : OpenClaim := { program := "ytoklfjkanipjkaa", sum := "98e4acc2f7c4d4a5349b7ee9093c87192c01951a7fa202a56b7a1eb30b2a7d4a", func := "civiltime/civiltimelaw16.GroupRestricts", spec := "groupRestricts", unfollowed := true, recurses := true, apart := false, narrowed := true }
def GroupRestrictsUptoSaid : Prop := groupRestrictsUptoRow.holds Try.pinned (OpenSpec.upto groupRestrictsSpec)

/-- 'civiltimelaw16.GroupKeeps', WHERE WHAT IT READS IS OF BULK AT MOST 1048576: true; the input reads as it did. -/
def groupKeepsUptoRow : OpenClaim := { program := "ytoklfjkanipjkaa", sum := "98e4acc2f7c4d4a5349b7ee9093c87192c01951a7fa202a56b7a1eb30b2a7d4a", func := "civiltime/civiltimelaw16.GroupKeeps", spec := "groupKeeps", unfollowed := true, recurses := true, apart := false, narrowed := true }
def GroupKeepsUptoSaid : Prop := groupKeepsUptoRow.holds Try.pinned (OpenSpec.upto groupKeepsSpec)

end Rows
end Go.Proofs.Ytoklfjkanipjkaa
