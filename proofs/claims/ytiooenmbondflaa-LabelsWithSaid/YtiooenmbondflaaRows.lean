/-
  No cell of these rows narrows 'for every input' (looked for: loops, veiled, ifaces, maps, wideKeys, modest, calm, conditions, laid).
  DERIVED. THE GIVEN ROWS OF THIS SEAT. 7 by the template 'for every input the law returns true; each argument reads behind the call as it read before'; 0 by the template 'total and deterministic' (their statements: YtiooenmbondflaaTotals.lean).
  GIVEN WITH THE SEED: the statements are not yours to turn. If you find one false, say at which input.
  Laid BY PROGRAM, IN A SANDBOX (cutbox-rows.mjs): the forced cells as the released guide's own fill.sh prints them over the translation 649a727fb8fd1d56… (all of the seat's roots in one cut). By AI agents, Wed Nov 11 2026. No macro, syntax, notation, axiom, sorry.
-/
import Derived.Test.YtiooenmbondflaaChecked
import GoSem.Claim
import GoSem.ClaimJoined
import GoSem.ClaimMapViews
import Derived.JoinedTies
import Derived.KernelRfl
namespace Go.Proofs.Ytiooenmbondflaa
/- THE CELL 'sum', in the pinned program and in every row, IS THE sha256 OF THE DUMP (.gsa) THAT YtiooenmbondflaaProg.lean LOADS. Nothing in Lean hashes anything: it is a label: what it is worth is what the hold of that sum in a sandbox is worth. -/
noncomputable def Try.pinned : Pinned := { name := "ytiooenmbondflaa", sum := "649a727fb8fd1d56c9b77a952e7389a46df8701c9367f713e285b5858280fc39", checked := Try.checked }
namespace Rows
def none {H : Type} : Left H := { results := [], args := [] }

/-- 'lookoutlaw05.LabelsBack': WHATEVER THE INPUT: true; the input reads as it did. -/
def labelsBackSpec : ChangeSpec := { name := "labelsBack", fn := fun _ => fun
  | [d1, d2] => { results := [.lit (.bool true)], args := [d1, d2] }
  | _ => none }
def labelsBackRow : OpenClaim := { program := "ytiooenmbondflaa", sum := "649a727fb8fd1d56c9b77a952e7389a46df8701c9367f713e285b5858280fc39", func := "lookout/lookoutlaw05.LabelsBack", spec := "labelsBack", unfollowed := true, recurses := true, apart := false }
def LabelsBackSaid : Prop := labelsBackRow.holds Try.pinned (OpenSpec.ofChange labelsBackSpec)

/-- ITS FALSE NEIGHBOUR: 'it returns false'. Refute it at one input. -/
def labelsBackWrong : ChangeSpec := { name := "labelsBack", fn := fun _ => fun
  | [d1, d2] => { results := [.lit (.bool false)], args := [d1, d2] }
  | _ => none }
def LabelsBackWrongFalsely : Prop := labelsBackRow.holds Try.pinned (OpenSpec.ofChange labelsBackWrong)

/-- 'lookoutlaw05.LabelsText': WHATEVER THE INPUT: true; the input reads as it did. -/
def labelsTextSpec : ChangeSpec := { name := "labelsText", fn := fun _ => fun
  | [d1, d2] => { results := [.lit (.bool true)], args := [d1, d2] }
  | _ => none }
def labelsTextRow : OpenClaim := { program := "ytiooenmbondflaa", sum := "649a727fb8fd1d56c9b77a952e7389a46df8701c9367f713e285b5858280fc39", func := "lookout/lookoutlaw05.LabelsText", spec := "labelsText", unfollowed := true, recurses := true, apart := false }
def LabelsTextSaid : Prop := labelsTextRow.holds Try.pinned (OpenSpec.ofChange labelsTextSpec)

/-- ITS FALSE NEIGHBOUR: 'it returns false'. Refute it at one input. -/
def labelsTextWrong : ChangeSpec := { name := "labelsText", fn := fun _ => fun
  | [d1, d2] => { results := [.lit (.bool false)], args := [d1, d2] }
  | _ => none }
def LabelsTextWrongFalsely : Prop := labelsTextRow.holds Try.pinned (OpenSpec.ofChange labelsTextWrong)

/-- 'lookoutlaw05.LabelsProject': WHATEVER THE INPUT: true; the input reads as it did. -/
def labelsProjectSpec : ChangeSpec := { name := "labelsProject", fn := fun _ => fun
  | [d1, d2] => { results := [.lit (.bool true)], args := [d1, d2] }
  | _ => none }
def labelsProjectRow : OpenClaim := { program := "ytiooenmbondflaa", sum := "649a727fb8fd1d56c9b77a952e7389a46df8701c9367f713e285b5858280fc39", func := "lookout/lookoutlaw05.LabelsProject", spec := "labelsProject", unfollowed := true, recurses := true, apart := false }
def LabelsProjectSaid : Prop := labelsProjectRow.holds Try.pinned (OpenSpec.ofChange labelsProjectSpec)

/-- ITS FALSE NEIGHBOUR: 'it returns false'. Refute it at one input. -/
def labelsProjectWrong : ChangeSpec := { name := "labelsProject", fn := fun _ => fun
  | [d1, d2] => { results := [.lit (.bool false)], args := [d1, d2] }
  | _ => none }
def LabelsProjectWrongFalsely : Prop := labelsProjectRow.holds Try.pinned (OpenSpec.ofChange labelsProjectWrong)

/-- 'lookoutlaw05.LabelsHash': WHATEVER THE INPUT: true; the input reads as it did. -/
def labelsHashSpec : ChangeSpec := { name := "labelsHash", fn := fun _ => fun
  | [d1, d2, d3] => { results := [.lit (.bool true)], args := [d1, d2, d3] }
  | _ => none }
def labelsHashRow : OpenClaim := { program := "ytiooenmbondflaa", sum := "649a727fb8fd1d56c9b77a952e7389a46df8701c9367f713e285b5858280fc39", func := "lookout/lookoutlaw05.LabelsHash", spec := "labelsHash", unfollowed := true, recurses := true, apart := false }
def LabelsHashSaid : Prop := labelsHashRow.holds Try.pinned (OpenSpec.ofChange labelsHashSpec)

/-- ITS FALSE NEIGHBOUR: 'it returns false'. Refute it at one input. -/
def labelsHashWrong : ChangeSpec := { name := "labelsHash", fn := fun _ => fun
  | [d1, d2, d3] => { results := [.lit (.bool false)], args := [d1, d2, d3] }
  | _ => none }
def LabelsHashWrongFalsely : Prop := labelsHashRow.holds Try.pinned (OpenSpec.ofChange labelsHashWrong)

/-- 'lookoutlaw05.LabelsOrder': WHATEVER THE INPUT: true; the input reads as it did. -/
def labelsOrderSpec : ChangeSpec := { name := "labelsOrder", fn := fun _ => fun
  | [d1, d2, d3] => { results := [.lit (.bool true)], args := [d1, d2, d3] }
  | _ => none }
def labelsOrderRow : OpenClaim := { program := "ytiooenmbondflaa", sum := "649a727fb8fd1d56c9b77a952e7389a46df8701c9367f713e285b5858280fc39", func := "lookout/lookoutlaw05.LabelsOrder", spec := "labelsOrder", unfollowed := true, recurses := true, apart := false }
def LabelsOrderSaid : Prop := labelsOrderRow.holds Try.pinned (OpenSpec.ofChange labelsOrderSpec)

/-- ITS FALSE NEIGHBOUR: 'it returns false'. Refute it at one input. -/
def labelsOrderWrong : ChangeSpec := { name := "labelsOrder", fn := fun _ => fun
  | [d1, d2, d3] => { results := [.lit (.bool false)], args := [d1, d2, d3] }
  | _ => none }
def LabelsOrderWrongFalsely : Prop := labelsOrderRow.holds Try.pinned (OpenSpec.ofChange labelsOrderWrong)

/-- 'lookoutlaw05.LabelsSets': WHATEVER THE INPUT: true; the input reads as it did. -/
def labelsSetsSpec : ChangeSpec := { name := "labelsSets", fn := fun _ => fun
  | [d1, d2, d3] => { results := [.lit (.bool true)], args := [d1, d2, d3] }
  | _ => none }
def labelsSetsRow : OpenClaim := { program := "ytiooenmbondflaa", sum := "649a727fb8fd1d56c9b77a952e7389a46df8701c9367f713e285b5858280fc39", func := "lookout/lookoutlaw05.LabelsSets", spec := "labelsSets", inPlace := ["slices.overlaps[lookout/api.Label]"], unfollowed := true, recurses := true, apart := false }
def LabelsSetsSaid : Prop := labelsSetsRow.holds Try.pinned (OpenSpec.ofChange labelsSetsSpec)

/-- ITS FALSE NEIGHBOUR: 'it returns false'. Refute it at one input. -/
def labelsSetsWrong : ChangeSpec := { name := "labelsSets", fn := fun _ => fun
  | [d1, d2, d3] => { results := [.lit (.bool false)], args := [d1, d2, d3] }
  | _ => none }
def LabelsSetsWrongFalsely : Prop := labelsSetsRow.holds Try.pinned (OpenSpec.ofChange labelsSetsWrong)

/-- 'lookoutlaw05.LabelsWith': WHATEVER THE INPUT: true; the input reads as it did. -/
def labelsWithSpec : ChangeSpec := { name := "labelsWith", fn := fun _ => fun
  | [d1, d2, d3] => { results := [.lit (.bool true)], args := [d1, d2, d3] }
  | _ => none }
def labelsWithRow : OpenClaim := { program := "ytiooenmbondflaa", sum := "649a727fb8fd1d56c9b77a952e7389a46df8701c9367f713e285b5858280fc39", func := "lookout/lookoutlaw05.LabelsWith", spec := "labelsWith", inPlace := ["slices.overlaps[lookout/api.Label]"], unfollowed := true, recurses := true, apart := false }
def LabelsWithSaid : Prop := labelsWithRow.holds Try.pinned (OpenSpec.ofChange labelsWithSpec)

/-- ITS FALSE NEIGHBOUR: 'it returns false'. Refute it at one input. -/
def labelsWithWrong : ChangeSpec := { name := "labelsWith", fn := fun _ => fun
  | [d1, d2, d3] => { results := [.lit (.bool false)], args := [d1, d2, d3] }
  | _ => none }
def LabelsWithWrongFalsely : Prop := labelsWithRow.holds Try.pinned (OpenSpec.ofChange labelsWithWrong)

/- THE SECOND FORM. 'bulk': how many values and letters a reading holds, each counted each time it is reached (what is shared counts as often as it is met; a slice's spare places count too). A statement '..UptoSaid' is the law's where the arguments, and the package variables that the reading takes, are together of bulk at most 1048576: NARROWER than '..Said'. Prove '..Said' where nothing that the law and all that it calls make is longer than what came in: it says more and counts as full. Else prove '..UptoSaid'. A law counts once. -/
mutual
def uptoBulk {H : Type} : DataW H → Nat
  | .lit (.string bytes) => bytes.length + 1
  | .lit _ => 1
  | .nil => 1
  | .ptr d => uptoBulk d + 1
  | .slice elems spare => uptoBulkAll elems + uptoBulkAll spare + 1
  | .agg parts => uptoBulkAll parts + 1
  | .iface _ d => uptoBulk d + 1
  | .map entries => uptoBulkEntries entries + 1
  | .held _ => 1
def uptoBulkAll {H : Type} : List (DataW H) → Nat
  | [] => 0
  | d :: r => uptoBulk d + uptoBulkAll r
def uptoBulkEntries {H : Type} : List (Lit × DataW H) → Nat
  | [] => 0
  | x :: r => uptoBulkEntry x + uptoBulkEntries r
def uptoBulkEntry {H : Type} : Lit × DataW H → Nat
  | (.string bytes, d) => bytes.length + uptoBulk d + 1
  | (_, d) => uptoBulk d + 1
 end
def uptoSmall : (H : Type) → List (DataW H) → Bool := fun _ ds => decide (uptoBulkAll ds ≤ 1048576)
def OpenSpec.upto (s : _root_.Go.ChangeSpec) : _root_.Go.OpenSpec := { _root_.Go.OpenSpec.ofChange s with cond := some uptoSmall }

/-- 'lookoutlaw05.LabelsBack', WHERE WHAT IT READS IS OF BULK AT MOST 1048576: true; the input reads as it did. -/
def labelsBackUptoRow : OpenClaim := { program := "ytiooenmbondflaa", sum := "649a727fb8fd1d56c9b77a952e7389a46df8701c9367f713e285b5858280fc39", func := "lookout/lookoutlaw05.LabelsBack", spec := "labelsBack", unfollowed := true, recurses := true, apart := false, narrowed := true }
def LabelsBackUptoSaid : Prop := labelsBackUptoRow.holds Try.pinned (OpenSpec.upto labelsBackSpec)

/-- 'lookoutlaw05.LabelsText', WHERE WHAT IT READS IS OF BULK AT MOST 1048576: true; the input reads as it did. -/
def labelsTextUptoRow : OpenClaim := { program := "ytiooenmbondflaa", sum := "649a727fb8fd1d56c9b77a952e7389a46df8701c9367f713e285b5858280fc39", func := "lookout/lookoutlaw05.LabelsText", spec := "labelsText", unfollowed := true, recurses := true, apart := false, narrowed := true }
def LabelsTextUptoSaid : Prop := labelsTextUptoRow.holds Try.pinned (OpenSpec.upto labelsTextSpec)

/-- 'lookoutlaw05.LabelsProject', WHERE WHAT IT READS IS OF BULK AT MOST 1048576: true; the input reads as it did. -/
def labelsProjectUptoRow : OpenClaim := { program := "ytiooenmbondflaa", sum := "649a727fb8fd1d56c9b77a952e7389a46df8701c9367f713e285b5858280fc39", func := "lookout/lookoutlaw05.LabelsProject", spec := "labelsProject", unfollowed := true, recurses := true, apart := false, narrowed := true }
def LabelsProjectUptoSaid : Prop := labelsProjectUptoRow.holds Try.pinned (OpenSpec.upto labelsProjectSpec)

/-- 'lookoutlaw05.LabelsHash', WHERE WHAT IT READS IS OF BULK AT MOST 1048576: true; the input reads as it did. -/
def labelsHashUptoRow : OpenClaim := { program := "ytiooenmbondflaa", sum := "649a727fb8fd1d56c9b77a952e7389a46df8701c9367f713e285b5858280fc39", func := "lookout/lookoutlaw05.LabelsHash", spec := "labelsHash", unfollowed := true, recurses := true, apart := false, narrowed := true }
def LabelsHashUptoSaid : Prop := labelsHashUptoRow.holds Try.pinned (OpenSpec.upto labelsHashSpec)

/-- 'lookoutlaw05.LabelsOrder', WHERE WHAT IT READS IS OF BULK AT MOST 1048576: true; the input reads as it did. -/
def labelsOrderUptoRow : OpenClaim := { program := "ytiooenmbondflaa", sum := "649a727fb8fd1d56c9b77a952e7389a46df8701c9367f713e285b5858280fc39", func := "lookout/lookoutlaw05.LabelsOrder", spec := "labelsOrder", unfollowed := true, recurses := true, apart := false, narrowed := true }
def LabelsOrderUptoSaid : Prop := labelsOrderUptoRow.holds Try.pinned (OpenSpec.upto labelsOrderSpec)

/-- 'lookoutlaw05.LabelsSets', WHERE WHAT IT READS IS OF BULK AT MOST 1048576: true; the input reads as it did. -/
def labelsSetsUptoRow : OpenClaim := { program := "ytiooenmbondflaa", sum := "649a727fb8fd1d56c9b77a952e7389a46df8701c9367f713e285b5858280fc39", func := "lookout/lookoutlaw05.LabelsSets", spec := "labelsSets", inPlace := ["slices.overlaps[lookout/api.Label]"], unfollowed := true, recurses := true, apart := false, narrowed := true }
def LabelsSetsUptoSaid : Prop := labelsSetsUptoRow.holds Try.pinned (OpenSpec.upto labelsSetsSpec)

/-- 'lookoutlaw05.LabelsWith', WHERE WHAT IT READS IS OF BULK AT MOST 1048576: true; the input reads as it did. -/
def labelsWithUptoRow : OpenClaim := { program := "ytiooenmbondflaa", sum := "649a727fb8fd1d56c9b77a952e7389a46df8701c9367f713e285b5858280fc39", func := "lookout/lookoutlaw05.LabelsWith", spec := "labelsWith", inPlace := ["slices.overlaps[lookout/api.Label]"], unfollowed := true, recurses := true, apart := false, narrowed := true }
def LabelsWithUptoSaid : Prop := labelsWithUptoRow.holds Try.pinned (OpenSpec.upto labelsWithSpec)

end Rows
end Go.Proofs.Ytiooenmbondflaa
