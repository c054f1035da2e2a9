/-
  No cell of these rows narrows 'for every input' (looked for: loops, veiled, ifaces, maps, wideKeys, modest, calm, conditions, laid).
  DERIVED. THE GIVEN ROWS OF THIS SEAT. 7 by the template 'for every input the law returns true; each argument reads behind the call as it read before'; 0 by the template 'total and deterministic' (their statements: YtjgkcgfbkcbjfaaTotals.lean).
  GIVEN WITH THE SEED: the statements are not yours to turn. If you find one false, say at which input.
  Laid BY PROGRAM, IN A SANDBOX (cutbox-rows.mjs): the forced cells as the released guide's own fill.sh prints them over the translation 7a88c64b74d7c30b… (all of the seat's roots in one cut). By AI agents, Wed Nov 11 2026. No macro, syntax, notation, axiom, sorry.
-/
import Derived.Test.YtjgkcgfbkcbjfaaChecked
import GoSem.Claim
import GoSem.ClaimJoined
import GoSem.ClaimMapViews
import Derived.JoinedTies
import Derived.KernelRfl
namespace Go.Proofs.Ytjgkcgfbkcbjfaa
/- THE CELL 'sum', in the pinned program and in every row, IS THE sha256 OF THE DUMP (.gsa) THAT YtjgkcgfbkcbjfaaProg.lean LOADS. Nothing in Lean hashes anything: it is a label: what it is worth is what the hold of that sum in a sandbox is worth. -/
noncomputable def Try.pinned : Pinned := { name := "ytjgkcgfbkcbjfaa", sum := "7a88c64b74d7c30bab3382e2327d170e825d2e508f0dd54c252d21a9a0a3ee0a", checked := Try.checked }
namespace Rows
def none {H : Type} : Left H := { results := [], args := [] }

/-- 'lookoutlaw11.SeriesIncrease': WHATEVER THE INPUT: true; the input reads as it did. -/
def seriesIncreaseSpec : ChangeSpec := { name := "seriesIncrease", fn := fun _ => fun
  | [d1, d2] => { results := [.lit (.bool true)], args := [d1, d2] }
  | _ => none }
def seriesIncreaseRow : OpenClaim := { program := "ytjgkcgfbkcbjfaa", sum := "7a88c64b74d7c30bab3382e2327d170e825d2e508f0dd54c252d21a9a0a3ee0a", func := "lookout/lookoutlaw11.SeriesIncrease", spec := "seriesIncrease", inPlace := ["slices.overlaps[lookout/api.Sample]"], unfollowed := true, recurses := true, apart := false }
def SeriesIncreaseSaid : Prop := seriesIncreaseRow.holds Try.pinned (OpenSpec.ofChange seriesIncreaseSpec)

/-- ITS FALSE NEIGHBOUR: 'it returns false'. Refute it at one input. -/
def seriesIncreaseWrong : ChangeSpec := { name := "seriesIncrease", fn := fun _ => fun
  | [d1, d2] => { results := [.lit (.bool false)], args := [d1, d2] }
  | _ => none }
def SeriesIncreaseWrongFalsely : Prop := seriesIncreaseRow.holds Try.pinned (OpenSpec.ofChange seriesIncreaseWrong)

/-- 'lookoutlaw11.SeriesCheck': WHATEVER THE INPUT: true; the input reads as it did. -/
def seriesCheckSpec : ChangeSpec := { name := "seriesCheck", fn := fun _ => fun
  | [d1, d2, d3] => { results := [.lit (.bool true)], args := [d1, d2, d3] }
  | _ => none }
def seriesCheckRow : OpenClaim := { program := "ytjgkcgfbkcbjfaa", sum := "7a88c64b74d7c30bab3382e2327d170e825d2e508f0dd54c252d21a9a0a3ee0a", func := "lookout/lookoutlaw11.SeriesCheck", spec := "seriesCheck", inPlace := ["slices.overlaps[lookout/api.Sample]"], unfollowed := true, recurses := true, apart := false }
def SeriesCheckSaid : Prop := seriesCheckRow.holds Try.pinned (OpenSpec.ofChange seriesCheckSpec)

/-- ITS FALSE NEIGHBOUR: 'it returns false'. Refute it at one input. -/
def seriesCheckWrong : ChangeSpec := { name := "seriesCheck", fn := fun _ => fun
  | [d1, d2, d3] => { results := [.lit (.bool false)], args := [d1, d2, d3] }
  | _ => none }
def SeriesCheckWrongFalsely : Prop := seriesCheckRow.holds Try.pinned (OpenSpec.ofChange seriesCheckWrong)

/-- 'lookoutlaw11.SeriesBetween': WHATEVER THE INPUT: true; the input reads as it did. -/
def seriesBetweenSpec : ChangeSpec := { name := "seriesBetween", fn := fun _ => fun
  | [d1, d2] => { results := [.lit (.bool true)], args := [d1, d2] }
  | _ => none }
def seriesBetweenRow : OpenClaim := { program := "ytjgkcgfbkcbjfaa", sum := "7a88c64b74d7c30bab3382e2327d170e825d2e508f0dd54c252d21a9a0a3ee0a", func := "lookout/lookoutlaw11.SeriesBetween", spec := "seriesBetween", inPlace := ["slices.overlaps[lookout/api.Sample]"], unfollowed := true, recurses := true, apart := false }
def SeriesBetweenSaid : Prop := seriesBetweenRow.holds Try.pinned (OpenSpec.ofChange seriesBetweenSpec)

/-- ITS FALSE NEIGHBOUR: 'it returns false'. Refute it at one input. -/
def seriesBetweenWrong : ChangeSpec := { name := "seriesBetween", fn := fun _ => fun
  | [d1, d2] => { results := [.lit (.bool false)], args := [d1, d2] }
  | _ => none }
def SeriesBetweenWrongFalsely : Prop := seriesBetweenRow.holds Try.pinned (OpenSpec.ofChange seriesBetweenWrong)

/-- 'lookoutlaw11.SeriesInsert': WHATEVER THE INPUT: true; the input reads as it did. -/
def seriesInsertSpec : ChangeSpec := { name := "seriesInsert", fn := fun _ => fun
  | [d1, d2, d3] => { results := [.lit (.bool true)], args := [d1, d2, d3] }
  | _ => none }
def seriesInsertRow : OpenClaim := { program := "ytjgkcgfbkcbjfaa", sum := "7a88c64b74d7c30bab3382e2327d170e825d2e508f0dd54c252d21a9a0a3ee0a", func := "lookout/lookoutlaw11.SeriesInsert", spec := "seriesInsert", inPlace := ["slices.overlaps[lookout/api.Sample]"], unfollowed := true, recurses := true, apart := false }
def SeriesInsertSaid : Prop := seriesInsertRow.holds Try.pinned (OpenSpec.ofChange seriesInsertSpec)

/-- ITS FALSE NEIGHBOUR: 'it returns false'. Refute it at one input. -/
def seriesInsertWrong : ChangeSpec := { name := "seriesInsert", fn := fun _ => fun
  | [d1, d2, d3] => { results := [.lit (.bool false)], args := [d1, d2, d3] }
  | _ => none }
def SeriesInsertWrongFalsely : Prop := seriesInsertRow.holds Try.pinned (OpenSpec.ofChange seriesInsertWrong)

/-- 'lookoutlaw11.SeriesMerge': WHATEVER THE INPUT: true; the input reads as it did. -/
def seriesMergeSpec : ChangeSpec := { name := "seriesMerge", fn := fun _ => fun
  | [d1, d2, d3] => { results := [.lit (.bool true)], args := [d1, d2, d3] }
  | _ => none }
def seriesMergeRow : OpenClaim := { program := "ytjgkcgfbkcbjfaa", sum := "7a88c64b74d7c30bab3382e2327d170e825d2e508f0dd54c252d21a9a0a3ee0a", func := "lookout/lookoutlaw11.SeriesMerge", spec := "seriesMerge", inPlace := ["slices.overlaps[lookout/api.Sample]"], unfollowed := true, recurses := true, apart := false }
def SeriesMergeSaid : Prop := seriesMergeRow.holds Try.pinned (OpenSpec.ofChange seriesMergeSpec)

/-- ITS FALSE NEIGHBOUR: 'it returns false'. Refute it at one input. -/
def seriesMergeWrong : ChangeSpec := { name := "seriesMerge", fn := fun _ => fun
  | [d1, d2, d3] => { results := [.lit (.bool false)], args := [d1, d2, d3] }
  | _ => none }
def SeriesMergeWrongFalsely : Prop := seriesMergeRow.holds Try.pinned (OpenSpec.ofChange seriesMergeWrong)

/-- 'lookoutlaw11.SeriesSlice': WHATEVER THE INPUT: true; the input reads as it did. -/
def seriesSliceSpec : ChangeSpec := { name := "seriesSlice", fn := fun _ => fun
  | [d1, d2, d3, d4] => { results := [.lit (.bool true)], args := [d1, d2, d3, d4] }
  | _ => none }
def seriesSliceRow : OpenClaim := { program := "ytjgkcgfbkcbjfaa", sum := "7a88c64b74d7c30bab3382e2327d170e825d2e508f0dd54c252d21a9a0a3ee0a", func := "lookout/lookoutlaw11.SeriesSlice", spec := "seriesSlice", inPlace := ["slices.overlaps[lookout/api.Sample]"], unfollowed := true, recurses := true, apart := false }
def SeriesSliceSaid : Prop := seriesSliceRow.holds Try.pinned (OpenSpec.ofChange seriesSliceSpec)

/-- ITS FALSE NEIGHBOUR: 'it returns false'. Refute it at one input. -/
def seriesSliceWrong : ChangeSpec := { name := "seriesSlice", fn := fun _ => fun
  | [d1, d2, d3, d4] => { results := [.lit (.bool false)], args := [d1, d2, d3, d4] }
  | _ => none }
def SeriesSliceWrongFalsely : Prop := seriesSliceRow.holds Try.pinned (OpenSpec.ofChange seriesSliceWrong)

/-- 'lookoutlaw11.SeriesChange': WHATEVER THE INPUT: true; the input reads as it did. -/
def seriesChangeSpec : ChangeSpec := { name := "seriesChange", fn := fun _ => fun
  | [d1, d2, d3] => { results := [.lit (.bool true)], args := [d1, d2, d3] }
  | _ => none }
def seriesChangeRow : OpenClaim := { program := "ytjgkcgfbkcbjfaa", sum := "7a88c64b74d7c30bab3382e2327d170e825d2e508f0dd54c252d21a9a0a3ee0a", func := "lookout/lookoutlaw11.SeriesChange", spec := "seriesChange", inPlace := ["slices.overlaps[lookout/api.Sample]"], unfollowed := true, recurses := true, apart := false }
def SeriesChangeSaid : Prop := seriesChangeRow.holds Try.pinned (OpenSpec.ofChange seriesChangeSpec)

/-- ITS FALSE NEIGHBOUR: 'it returns false'. Refute it at one input. -/
def seriesChangeWrong : ChangeSpec := { name := "seriesChange", fn := fun _ => fun
  | [d1, d2, d3] => { results := [.lit (.bool false)], args := [d1, d2, d3] }
  | _ => none }
def SeriesChangeWrongFalsely : Prop := seriesChangeRow.holds Try.pinned (OpenSpec.ofChange seriesChangeWrong)

/- THE SECOND FORM. 'bulk': how many values and letters a reading holds, each counted each time it is reached (what is shared counts as often as it is met; a slice's spare places count too). A statement '..UptoSaid' is the law's where the arguments, and the package variables that the reading takes, are together of bulk at most 1048576: NARROWER than '..Said'. Prove '..Said' where nothing that the law and all that it calls make is longer than what came in: it says more and counts as full. Else prove '..UptoSaid'. A law counts once. -/
mutual
def uptoBulk {H : Type} : DataW H → Nat
  | .lit (.string bytes) => bytes.length + 1
  | .lit _ => 1
  | .nil => 1
  | .ptr d => uptoBulk d + 1
  | .slice elems spare => uptoBulkAll elems + uptoBulkAll spare + 1
  | .agg parts => uptoBulkAll parts + 1
  | .iface _ d => uptoBulk d + 1
  | .map entries => uptoBulkEntries entries + 1
  | .held _ => 1
def uptoBulkAll {H : Type} : List (DataW H) → Nat
  | [] => 0
  | d :: r => uptoBulk d + uptoBulkAll r
def uptoBulkEntries {H : Type} : List (Lit × DataW H) → Nat
  | [] => 0
  | x :: r => uptoBulkEntry x + uptoBulkEntries r
def uptoBulkEntry {H : Type} : Lit × DataW H → Nat
  | (.string bytes, d) => bytes.length + uptoBulk d + 1
  | (_, d) => uptoBulk d + 1
 end
def uptoSmall : (H : Type) → List (DataW H) → Bool := fun _ ds => decide (uptoBulkAll ds ≤ 1048576)
def OpenSpec.upto (s : _root_.Go.ChangeSpec) : _root_.Go.OpenSpec := { _root_.Go.OpenSpec.ofChange s with cond := some uptoSmall }

/-- 'lookoutlaw11.SeriesIncrease', WHERE WHAT IT READS IS OF BULK AT MOST 1048576: true; the input reads as it did. -/
def seriesIncreaseUptoRow : OpenClaim := { program := "ytjgkcgfbkcbjfaa", sum := "7a88c64b74d7c30bab3382e2327d170e825d2e508f0dd54c252d21a9a0a3ee0a", func := "lookout/lookoutlaw11.SeriesIncrease", spec := "seriesIncrease", inPlace := ["slices.overlaps[lookout/api.Sample]"], unfollowed := true, recurses := true, apart := false, narrowed := true }
def SeriesIncreaseUptoSaid : Prop := seriesIncreaseUptoRow.holds Try.pinned (OpenSpec.upto seriesIncreaseSpec)

/-- 'lookoutlaw11.SeriesCheck', WHERE WHAT IT READS IS OF BULK AT MOST 1048576: true; the input reads as it did. -/
def seriesCheckUptoRow : OpenClaim := { program := "ytjgkcgfbkcbjfaa", sum := "7a88c64b74d7c30bab3382e2327d170e825d2e508f0dd54c252d21a9a0a3ee0a", func := "lookout/lookoutlaw11.SeriesCheck", spec := "seriesCheck", inPlace := ["slices.overlaps[lookout/api.Sample]"], unfollowed := true, recurses := true, apart := false, narrowed := true }
def SeriesCheckUptoSaid : Prop := seriesCheckUptoRow.holds Try.pinned (OpenSpec.upto seriesCheckSpec)

/-- 'lookoutlaw11.SeriesBetween', WHERE WHAT IT READS IS OF BULK AT MOST 1048576: true; the input reads as it did. -/
def seriesBetweenUptoRow : OpenClaim := { program := "ytjgkcgfbkcbjfaa", sum := "7a88c64b74d7c30bab3382e2327d170e825d2e508f0dd54c252d21a9a0a3ee0a", func := "lookout/lookoutlaw11.SeriesBetween", spec := "seriesBetween", inPlace := ["slices.overlaps[lookout/api.Sample]"], unfollowed := true, recurses := true, apart := false, narrowed := true }
def SeriesBetweenUptoSaid : Prop := seriesBetweenUptoRow.holds Try.pinned (OpenSpec.upto seriesBetweenSpec)

/-- 'lookoutlaw11.SeriesInsert', WHERE WHAT IT READS IS OF BULK AT MOST 1048576: true; the input reads as it did. -/
def seriesInsertUptoRow : OpenClaim := { program := "ytjgkcgfbkcbjfaa", sum := "7a88c64b74d7c30bab3382e2327d170e825d2e508f0dd54c252d21a9a0a3ee0a", func := "lookout/lookoutlaw11.SeriesInsert", spec := "seriesInsert", inPlace := ["slices.overlaps[lookout/api.Sample]"], unfollowed := true, recurses := true, apart := false, narrowed := true }
def SeriesInsertUptoSaid : Prop := seriesInsertUptoRow.holds Try.pinned (OpenSpec.upto seriesInsertSpec)

/-- 'lookoutlaw11.SeriesMerge', WHERE WHAT IT READS IS OF BULK AT MOST 1048576: true; the input reads as it did. -/
def seriesMergeUptoRow : OpenClaim := { program := "ytjgkcgfbkcbjfaa", sum := "7a88c64b74d7c30bab3382e2327d170e825d2e508f0dd54c252d21a9a0a3ee0a", func := "lookout/lookoutlaw11.SeriesMerge", spec := "seriesMerge", inPlace := ["slices.overlaps[lookout/api.Sample]"], unfollowed := true, recurses := true, apart := false, narrowed := true }
def SeriesMergeUptoSaid : Prop := seriesMergeUptoRow.holds Try.pinned (OpenSpec.upto seriesMergeSpec)

/-- 'lookoutlaw11.SeriesSlice', WHERE WHAT IT READS IS OF BULK AT MOST 1048576: true; the input reads as it did. -/
def seriesSliceUptoRow : OpenClaim := { program := "ytjgkcgfbkcbjfaa", sum := "7a88c64b74d7c30bab3382e2327d170e825d2e508f0dd54c252d21a9a0a3ee0a", func := "lookout/lookoutlaw11.SeriesSlice", spec := "seriesSlice", inPlace := ["slices.overlaps[lookout/api.Sample]"], unfollowed := true, recurses := true, apart := false, narrowed := true }
def SeriesSliceUptoSaid : Prop := seriesSliceUptoRow.holds Try.pinned (OpenSpec.upto seriesSliceSpec)

/-- 'lookoutlaw11.SeriesChange', WHERE WHAT IT READS IS OF BULK AT MOST 1048576: true; the input reads as it did. -/
def seriesChangeUptoRow : OpenClaim := { program := "ytjgkcgfbkcbjfaa", sum := "7a88c64b74d7c30bab3382e2327d170e825d2e508f0dd54c252d21a9a0a3ee0a", func := "lookout/lookoutlaw11.SeriesChange", spec := "seriesChange", inPlace := ["slices.overlaps[lookout/api.Sample]"], unfollowed := true, recurses := true, apart := false, narrowed := true }
def SeriesChangeUptoSaid : Prop := seriesChangeUptoRow.holds Try.pinned (OpenSpec.upto seriesChangeSpec)

end Rows
end Go.Proofs.Ytjgkcgfbkcbjfaa
