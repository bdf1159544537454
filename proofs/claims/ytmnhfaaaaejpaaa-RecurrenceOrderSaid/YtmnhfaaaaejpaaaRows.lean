/-
  No cell of these rows narrows 'for every input' (looked for: loops, veiled, ifaces, maps, wideKeys, modest, calm, conditions, laid).
  DERIVED. THE GIVEN ROWS OF THIS SEAT. 7 by the template 'for every input the law returns true; each argument reads behind the call as it read before'; 0 by the template 'total and deterministic' (their statements: YtmnhfaaaaejpaaaTotals.lean).
  GIVEN WITH THE SEED: the statements are not yours to turn. If you find one false, say at which input.
  Laid BY PROGRAM, IN A SANDBOX (cutbox-rows.mjs): the forced cells as the released guide's own fill.sh prints them over the translation 6ad0d76314cb1ccc… (all of the seat's roots in one cut). By AI agents, Wed Nov 11 2026. No macro, syntax, notation, axiom, sorry.
-/
import Derived.Test.YtmnhfaaaaejpaaaChecked
import GoSem.Claim
import GoSem.ClaimJoined
import GoSem.ClaimMapViews
import Derived.JoinedTies
import Derived.KernelRfl
namespace Go.Proofs.Ytmnhfaaaaejpaaa
/- THE CELL 'sum', in the pinned program and in every row, IS THE sha256 OF THE DUMP (.gsa) THAT YtmnhfaaaaejpaaaProg.lean LOADS. Nothing in Lean hashes anything: it is a label: what it is worth is what the hold of that sum in a sandbox is worth. -/
noncomputable def Try.pinned : Pinned := { name := "ytmnhfaaaaejpaaa", sum := "6ad0d76314cb1cccd44c1407aaa359d5377e0c01fedc1870875c908a5061f9e2", checked := Try.checked }
namespace Rows
def none {H : Type} : Left H := { results := [], args := [] }

/-- 'civiltimelaw29.RecurrenceOrder': WHATEVER THE INPUT: true; the input reads as it did. -/
def recurrenceOrderSpec : ChangeSpec := { name := "recurrenceOrder", fn := fun _ => fun
  | [d1, d2, d3] => { results := [.lit (.bool true)], args := [d1, d2, d3] }
  | _ => none }
def recurrenceOrderRow : OpenClaim := { program := "ytmnhfaaaaejpaaa", sum := "6ad0d76314cb1cccd44c1407aaa359d5377e0c01fedc1870875c908a5061f9e2", func := "civiltime/civiltimelaw29.RecurrenceOrder", spec := "recurrenceOrder", unfollowed := true, recurses := true, apart := false }
def RecurrenceOrderSaid : Prop := recurrenceOrderRow.holds Try.pinned (OpenSpec.ofChange recurrenceOrderSpec)

/-- ITS FALSE NEIGHBOUR: 'it returns false'. Refute it at one input. -/
def recurrenceOrderWrong : ChangeSpec := { name := "recurrenceOrder", fn := fun _ => fun
  | [d1, d2, d3] => { results := [.lit (.bool false)], args := [d1, d2, d3] }
  | _ => none }
def RecurrenceOrderWrongFalsely : Prop := recurrenceOrderRow.holds Try.pinned (OpenSpec.ofChange recurrenceOrderWrong)

/-- 'civiltimelaw29.RecurrenceDaily': WHATEVER THE INPUT: true; the input reads as it did. -/
def recurrenceDailySpec : ChangeSpec := { name := "recurrenceDaily", fn := fun _ => fun
  | [d1, d2, d3, d4] => { results := [.lit (.bool true)], args := [d1, d2, d3, d4] }
  | _ => none }
def recurrenceDailyRow : OpenClaim := { program := "ytmnhfaaaaejpaaa", sum := "6ad0d76314cb1cccd44c1407aaa359d5377e0c01fedc1870875c908a5061f9e2", func := "civiltime/civiltimelaw29.RecurrenceDaily", spec := "recurrenceDaily", unfollowed := true, recurses := true, apart := false }
def RecurrenceDailySaid : Prop := recurrenceDailyRow.holds Try.pinned (OpenSpec.ofChange recurrenceDailySpec)

/-- ITS FALSE NEIGHBOUR: 'it returns false'. Refute it at one input. -/
def recurrenceDailyWrong : ChangeSpec := { name := "recurrenceDaily", fn := fun _ => fun
  | [d1, d2, d3, d4] => { results := [.lit (.bool false)], args := [d1, d2, d3, d4] }
  | _ => none }
def RecurrenceDailyWrongFalsely : Prop := recurrenceDailyRow.holds Try.pinned (OpenSpec.ofChange recurrenceDailyWrong)

/-- 'civiltimelaw29.RecurrenceYearly': WHATEVER THE INPUT: true; the input reads as it did. -/
def recurrenceYearlySpec : ChangeSpec := { name := "recurrenceYearly", fn := fun _ => fun
  | [d1, d2, d3] => { results := [.lit (.bool true)], args := [d1, d2, d3] }
  | _ => none }
def recurrenceYearlyRow : OpenClaim := { program := "ytmnhfaaaaejpaaa", sum := "6ad0d76314cb1cccd44c1407aaa359d5377e0c01fedc1870875c908a5061f9e2", func := "civiltime/civiltimelaw29.RecurrenceYearly", spec := "recurrenceYearly", unfollowed := true, recurses := true, apart := false }
def RecurrenceYearlySaid : Prop := recurrenceYearlyRow.holds Try.pinned (OpenSpec.ofChange recurrenceYearlySpec)

/-- ITS FALSE NEIGHBOUR: 'it returns false'. Refute it at one input. -/
def recurrenceYearlyWrong : ChangeSpec := { name := "recurrenceYearly", fn := fun _ => fun
  | [d1, d2, d3] => { results := [.lit (.bool false)], args := [d1, d2, d3] }
  | _ => none }
def RecurrenceYearlyWrongFalsely : Prop := recurrenceYearlyRow.holds Try.pinned (OpenSpec.ofChange recurrenceYearlyWrong)

/-- 'civiltimelaw29.RecurrencePeriods': WHATEVER THE INPUT: true; the input reads as it did. -/
def recurrencePeriodsSpec : ChangeSpec := { name := "recurrencePeriods", fn := fun _ => fun
  | [d1, d2, d3, d4] => { results := [.lit (.bool true)], args := [d1, d2, d3, d4] }
  | _ => none }
def recurrencePeriodsRow : OpenClaim := { program := "ytmnhfaaaaejpaaa", sum := "6ad0d76314cb1cccd44c1407aaa359d5377e0c01fedc1870875c908a5061f9e2", func := "civiltime/civiltimelaw29.RecurrencePeriods", spec := "recurrencePeriods", unfollowed := true, recurses := true, apart := false }
def RecurrencePeriodsSaid : Prop := recurrencePeriodsRow.holds Try.pinned (OpenSpec.ofChange recurrencePeriodsSpec)

/-- ITS FALSE NEIGHBOUR: 'it returns false'. Refute it at one input. -/
def recurrencePeriodsWrong : ChangeSpec := { name := "recurrencePeriods", fn := fun _ => fun
  | [d1, d2, d3, d4] => { results := [.lit (.bool false)], args := [d1, d2, d3, d4] }
  | _ => none }
def RecurrencePeriodsWrongFalsely : Prop := recurrencePeriodsRow.holds Try.pinned (OpenSpec.ofChange recurrencePeriodsWrong)

/-- 'civiltimelaw29.RecurrencePositions': WHATEVER THE INPUT: true; the input reads as it did. -/
def recurrencePositionsSpec : ChangeSpec := { name := "recurrencePositions", fn := fun _ => fun
  | [d1, d2, d3, d4] => { results := [.lit (.bool true)], args := [d1, d2, d3, d4] }
  | _ => none }
def recurrencePositionsRow : OpenClaim := { program := "ytmnhfaaaaejpaaa", sum := "6ad0d76314cb1cccd44c1407aaa359d5377e0c01fedc1870875c908a5061f9e2", func := "civiltime/civiltimelaw29.RecurrencePositions", spec := "recurrencePositions", unfollowed := true, recurses := true, apart := false }
def RecurrencePositionsSaid : Prop := recurrencePositionsRow.holds Try.pinned (OpenSpec.ofChange recurrencePositionsSpec)

/-- ITS FALSE NEIGHBOUR: 'it returns false'. Refute it at one input. -/
def recurrencePositionsWrong : ChangeSpec := { name := "recurrencePositions", fn := fun _ => fun
  | [d1, d2, d3, d4] => { results := [.lit (.bool false)], args := [d1, d2, d3, d4] }
  | _ => none }
def RecurrencePositionsWrongFalsely : Prop := recurrencePositionsRow.holds Try.pinned (OpenSpec.ofChange recurrencePositionsWrong)

/-- 'civiltimelaw29.RecurrenceIndices': WHATEVER THE INPUT: true; the input reads as it did. -/
def recurrenceIndicesSpec : ChangeSpec := { name := "recurrenceIndices", fn := fun _ => fun
  | [d1, d2] => { results := [.lit (.bool true)], args := [d1, d2] }
  | _ => none }
def recurrenceIndicesRow : OpenClaim := { program := "ytmnhfaaaaejpaaa", sum := "6ad0d76314cb1cccd44c1407aaa359d5377e0c01fedc1870875c908a5061f9e2", func := "civiltime/civiltimelaw29.RecurrenceIndices", spec := "recurrenceIndices", unfollowed := true, recurses := true, apart := false }
def RecurrenceIndicesSaid : Prop := recurrenceIndicesRow.holds Try.pinned (OpenSpec.ofChange recurrenceIndicesSpec)

/-- ITS FALSE NEIGHBOUR: 'it returns false'. Refute it at one input. -/
def recurrenceIndicesWrong : ChangeSpec := { name := "recurrenceIndices", fn := fun _ => fun
  | [d1, d2] => { results := [.lit (.bool false)], args := [d1, d2] }
  | _ => none }
def RecurrenceIndicesWrongFalsely : Prop := recurrenceIndicesRow.holds Try.pinned (OpenSpec.ofChange recurrenceIndicesWrong)

/-- 'civiltimelaw29.RecurrenceCandidates': WHATEVER THE INPUT: true; the input reads as it did. -/
def recurrenceCandidatesSpec : ChangeSpec := { name := "recurrenceCandidates", fn := fun _ => fun
  | [d1, d2, d3] => { results := [.lit (.bool true)], args := [d1, d2, d3] }
  | _ => none }
def recurrenceCandidatesRow : OpenClaim := { program := "ytmnhfaaaaejpaaa", sum := "6ad0d76314cb1cccd44c1407aaa359d5377e0c01fedc1870875c908a5061f9e2", func := "civiltime/civiltimelaw29.RecurrenceCandidates", spec := "recurrenceCandidates", unfollowed := true, recurses := true, apart := false }
def RecurrenceCandidatesSaid : Prop := recurrenceCandidatesRow.holds Try.pinned (OpenSpec.ofChange recurrenceCandidatesSpec)

/-- ITS FALSE NEIGHBOUR: 'it returns false'. Refute it at one input. -/
def recurrenceCandidatesWrong : ChangeSpec := { name := "recurrenceCandidates", fn := fun _ => fun
  | [d1, d2, d3] => { results := [.lit (.bool false)], args := [d1, d2, d3] }
  | _ => none }
def RecurrenceCandidatesWrongFalsely : Prop := recurrenceCandidatesRow.holds Try.pinned (OpenSpec.ofChange recurrenceCandidatesWrong)

/- THE SECOND FORM. 'bulk': how many values and letters a reading holds, each counted each time it is reached (what is shared counts as often as it is met; a slice's spare places count too). A statement '..UptoSaid' is the law's where the arguments, and the package variables that the reading takes, are together of bulk at most 1048576: NARROWER than '..Said'. Prove '..Said' where nothing that the law and all that it calls make is longer than what came in: it says more and counts as full. Else prove '..UptoSaid'. A law counts once. -/
mutual
def uptoBulk {H : Type} : DataW H → Nat
  | .lit (.string bytes) => bytes.length + 1
  | .lit _ => 1
  | .nil => 1
  | .ptr d => uptoBulk d + 1
  | .slice elems spare => uptoBulkAll elems + uptoBulkAll spare + 1
  | .agg parts => uptoBulkAll parts + 1
  | .iface _ d => uptoBulk d + 1
  | .map entries => uptoBulkEntries entries + 1
  | .held _ => 1
def uptoBulkAll {H : Type} : List (DataW H) → Nat
  | [] => 0
  | d :: r => uptoBulk d + uptoBulkAll r
def uptoBulkEntries {H : Type} : List (Lit × DataW H) → Nat
  | [] => 0
  | x :: r => uptoBulkEntry x + uptoBulkEntries r
def uptoBulkEntry {H : Type} : Lit × DataW H → Nat
  | (.string bytes, d) => bytes.length + uptoBulk d + 1
  | (_, d) => uptoBulk d + 1
 end
def uptoSmall : (H : Type) → List (DataW H) → Bool := fun _ ds => decide (uptoBulkAll ds ≤ 1048576)
def OpenSpec.upto (s : _root_.Go.ChangeSpec) : _root_.Go.OpenSpec := { _root_.Go.OpenSpec.ofChange s with cond := some uptoSmall }

/-- 'civiltimelaw29.RecurrenceOrder', WHERE WHAT IT READS IS OF BULK AT MOST 1048576: true; the input reads as it did. -/
def recurrenceOrderUptoRow : OpenClaim := { program := "ytmnhfaaaaejpaaa", sum := "6ad0d76314cb1cccd44c1407aaa359d5377e0c01fedc1870875c908a5061f9e2", func := "civiltime/civiltimelaw29.RecurrenceOrder", spec := "recurrenceOrder", unfollowed := true, recurses := true, apart := false, narrowed := true }
def RecurrenceOrderUptoSaid : Prop := recurrenceOrderUptoRow.holds Try.pinned (OpenSpec.upto recurrenceOrderSpec)

/-- 'civiltimelaw29.RecurrenceDaily', WHERE WHAT IT READS IS OF BULK AT MOST 1048576: true; the input reads as it did. -/
def recurrenceDailyUptoRow : OpenClaim := { program := "ytmnhfaaaaejpaaa", sum := "6ad0d76314cb1cccd44c1407aaa359d5377e0c01fedc1870875c908a5061f9e2", func := "civiltime/civiltimelaw29.RecurrenceDaily", spec := "recurrenceDaily", unfollowed := true, recurses := true, apart := false, narrowed := true }
def RecurrenceDailyUptoSaid : Prop := recurrenceDailyUptoRow.holds Try.pinned (OpenSpec.upto recurrenceDailySpec)

/-- 'civiltimelaw29.RecurrenceYearly', WHERE WHAT IT READS IS OF BULK AT MOST 1048576: true; the input reads as it did. -/
def recurrenceYearlyUptoRow : OpenClaim := { program := "ytmnhfaaaaejpaaa", sum := "6ad0d76314cb1cccd44c1407aaa359d5377e0c01fedc1870875c908a5061f9e2", func := "civiltime/civiltimelaw29.RecurrenceYearly", spec := "recurrenceYearly", unfollowed := true, recurses := true, apart := false, narrowed := true }
def RecurrenceYearlyUptoSaid : Prop := recurrenceYearlyUptoRow.holds Try.pinned (OpenSpec.upto recurrenceYearlySpec)

/-- 'civiltimelaw29.RecurrencePeriods', WHERE WHAT IT READS IS OF BULK AT MOST 1048576: true; the input reads as it did. -/
def recurrencePeriodsUptoRow : OpenClaim := { program := "ytmnhfaaaaejpaaa", sum := "6ad0d76314cb1cccd44c1407aaa359d5377e0c01fedc1870875c908a5061f9e2", func := "civiltime/civiltimelaw29.RecurrencePeriods", spec := "recurrencePeriods", unfollowed := true, recurses := true, apart := false, narrowed := true }
def RecurrencePeriodsUptoSaid : Prop := recurrencePeriodsUptoRow.holds Try.pinned (OpenSpec.upto recurrencePeriodsSpec)

/-- 'civiltimelaw29.RecurrencePositions', WHERE WHAT IT READS IS OF BULK AT MOST 1048576: true; the input reads as it did. -/
def recurrencePositionsUptoRow : OpenClaim := { program := "ytmnhfaaaaejpaaa", sum := "6ad0d76314cb1cccd44c1407aaa359d5377e0c01fedc1870875c908a5061f9e2", func := "civiltime/civiltimelaw29.RecurrencePositions", spec := "recurrencePositions", unfollowed := true, recurses := true, apart := false, narrowed := true }
def RecurrencePositionsUptoSaid : Prop := recurrencePositionsUptoRow.holds Try.pinned (OpenSpec.upto recurrencePositionsSpec)

/-- 'civiltimelaw29.RecurrenceIndices', WHERE WHAT IT READS IS OF BULK AT MOST 1048576: true; the input reads as it did. -/
def recurrenceIndicesUptoRow : OpenClaim := { program := "ytmnhfaaaaejpaaa", sum := "6ad0d76314cb1cccd44c1407aaa359d5377e0c01fedc1870875c908a5061f9e2", func := "civiltime/civiltimelaw29.RecurrenceIndices", spec := "recurrenceIndices", unfollowed := true, recurses := true, apart := false, narrowed := true }
def RecurrenceIndicesUptoSaid : Prop := recurrenceIndicesUptoRow.holds Try.pinned (OpenSpec.upto recurrenceIndicesSpec)

/-- 'civiltimelaw29.RecurrenceCandidates', WHERE WHAT IT READS IS OF BULK AT MOST 1048576: true; the input reads as it did. -/
def recurrenceCandidatesUptoRow : OpenClaim := { program := "ytmnhfaaaaejpaaa", sum := "6ad0d76314cb1cccd44c1407aaa359d5377e0c01fedc1870875c908a5061f9e2", func := "civiltime/civiltimelaw29.RecurrenceCandidates", spec := "recurrenceCandidates", unfollowed := true, recurses := true, apart := false, narrowed := true }
def RecurrenceCandidatesUptoSaid : Prop := recurrenceCandidatesUptoRow.holds Try.pinned (OpenSpec.upto recurrenceCandidatesSpec)

end Rows
end Go.Proofs.Ytmnhfaaaaejpaaa
