/-
  No cell of these rows narrows 'for every input' (looked for: loops, veiled, ifaces, maps, wideKeys, modest, calm, conditions, laid).
  DERIVED. THE GIVEN ROWS OF THIS SEAT. 7 by the template 'for every input the law returns true; each argument reads behind the call as it read before'; 0 by the template 'total and deterministic' (their statements: YtgpkpeefbkcjeaaTotals.lean).
  GIVEN WITH THE SEED: the statements are not yours to turn. If you find one false, say at which input.
  Laid BY PROGRAM, IN A SANDBOX (cutbox-rows.mjs): the forced cells as the released guide's own fill.sh prints them over the translation 4b80d39ce9851166… (all of the seat's roots in one cut). By AI agents, Wed Nov 11 2026. No macro, syntax, notation, axiom, sorry.
-/
import Derived.Test.YtgpkpeefbkcjeaaChecked
import GoSem.Claim
import GoSem.ClaimJoined
import GoSem.ClaimMapViews
import Derived.JoinedTies
import Derived.KernelRfl
namespace Go.Proofs.Ytgpkpeefbkcjeaa
/- THE CELL 'sum', in the pinned program and in every row, IS THE sha256 OF THE DUMP (.gsa) THAT YtgpkpeefbkcjeaaProg.lean LOADS. Nothing in Lean hashes anything: it is a label: what it is worth is what the hold of that sum in a sandbox is worth. -/
noncomputable def Try.pinned : Pinned := { name := "ytgpkpeefbkcjeaa", sum := "4b80d39ce9851166ed5b8b7d2e69ad410b488119b331d69594efd8c65e0c3c8c", checked := Try.checked }
namespace Rows
def none {H : Type} : Left H := { results := [], args := [] }

/-- 'lookoutlaw32.HeavyhittersAdd': WHATEVER THE INPUT: true; the input reads as it did. -/
def heavyhittersAddSpec : ChangeSpec := { name := "heavyhittersAdd", fn := fun _ => fun
  | [d1, d2, d3, d4] => { results := [.lit (.bool true)], args := [d1, d2, d3, d4] }
  | _ => none }
def heavyhittersAddRow : OpenClaim := { program := "ytgpkpeefbkcjeaa", sum := "4b80d39ce9851166ed5b8b7d2e69ad410b488119b331d69594efd8c65e0c3c8c", func := "lookout/lookoutlaw32.HeavyhittersAdd", spec := "heavyhittersAdd", unfollowed := true, recurses := true, apart := false }
def HeavyhittersAddSaid : Prop := heavyhittersAddRow.holds Try.pinned (OpenSpec.ofChange heavyhittersAddSpec)

/-- ITS FALSE NEIGHBOUR: 'it returns false'. Refute it at one input. -/
def heavyhittersAddWrong : ChangeSpec := { name := "heavyhittersAdd", fn := fun _ => fun
  | [d1, d2, d3, d4] => { results := [.lit (.bool false)], args := [d1, d2, d3, d4] }
  | _ => none }
def HeavyhittersAddWrongFalsely : Prop := heavyhittersAddRow.holds Try.pinned (OpenSpec.ofChange heavyhittersAddWrong)

/-- 'lookoutlaw32.HeavyhittersReads': WHATEVER THE INPUT: true; the input reads as it did. -/
def heavyhittersReadsSpec : ChangeSpec := { name := "heavyhittersReads", fn := fun _ => fun
  | [d1, d2, d3] => { results := [.lit (.bool true)], args := [d1, d2, d3] }
  | _ => none }
def heavyhittersReadsRow : OpenClaim := { program := "ytgpkpeefbkcjeaa", sum := "4b80d39ce9851166ed5b8b7d2e69ad410b488119b331d69594efd8c65e0c3c8c", func := "lookout/lookoutlaw32.HeavyhittersReads", spec := "heavyhittersReads", unfollowed := true, recurses := true, apart := false }
def HeavyhittersReadsSaid : Prop := heavyhittersReadsRow.holds Try.pinned (OpenSpec.ofChange heavyhittersReadsSpec)

/-- ITS FALSE NEIGHBOUR: 'it returns false'. Refute it at one input. -/
def heavyhittersReadsWrong : ChangeSpec := { name := "heavyhittersReads", fn := fun _ => fun
  | [d1, d2, d3] => { results := [.lit (.bool false)], args := [d1, d2, d3] }
  | _ => none }
def HeavyhittersReadsWrongFalsely : Prop := heavyhittersReadsRow.holds Try.pinned (OpenSpec.ofChange heavyhittersReadsWrong)

/-- 'lookoutlaw32.HeavyhittersMerge': WHATEVER THE INPUT: true; the input reads as it did. -/
def heavyhittersMergeSpec : ChangeSpec := { name := "heavyhittersMerge", fn := fun _ => fun
  | [d1, d2] => { results := [.lit (.bool true)], args := [d1, d2] }
  | _ => none }
def heavyhittersMergeRow : OpenClaim := { program := "ytgpkpeefbkcjeaa", sum := "4b80d39ce9851166ed5b8b7d2e69ad410b488119b331d69594efd8c65e0c3c8c", func := "lookout/lookoutlaw32.HeavyhittersMerge", spec := "heavyhittersMerge", unfollowed := true, recurses := true, apart := false }
def HeavyhittersMergeSaid : Prop := heavyhittersMergeRow.holds Try.pinned (OpenSpec.ofChange heavyhittersMergeSpec)

/-- ITS FALSE NEIGHBOUR: 'it returns false'. Refute it at one input. -/
def heavyhittersMergeWrong : ChangeSpec := { name := "heavyhittersMerge", fn := fun _ => fun
  | [d1, d2] => { results := [.lit (.bool false)], args := [d1, d2] }
  | _ => none }
def HeavyhittersMergeWrongFalsely : Prop := heavyhittersMergeRow.holds Try.pinned (OpenSpec.ofChange heavyhittersMergeWrong)

/-- 'lookoutlaw32.HeavyhittersValid': WHATEVER THE INPUT: true; the input reads as it did. -/
def heavyhittersValidSpec : ChangeSpec := { name := "heavyhittersValid", fn := fun _ => fun
  | [d1, d2, d3, d4] => { results := [.lit (.bool true)], args := [d1, d2, d3, d4] }
  | _ => none }
def heavyhittersValidRow : OpenClaim := { program := "ytgpkpeefbkcjeaa", sum := "4b80d39ce9851166ed5b8b7d2e69ad410b488119b331d69594efd8c65e0c3c8c", func := "lookout/lookoutlaw32.HeavyhittersValid", spec := "heavyhittersValid", unfollowed := true, recurses := true, apart := false }
def HeavyhittersValidSaid : Prop := heavyhittersValidRow.holds Try.pinned (OpenSpec.ofChange heavyhittersValidSpec)

/-- ITS FALSE NEIGHBOUR: 'it returns false'. Refute it at one input. -/
def heavyhittersValidWrong : ChangeSpec := { name := "heavyhittersValid", fn := fun _ => fun
  | [d1, d2, d3, d4] => { results := [.lit (.bool false)], args := [d1, d2, d3, d4] }
  | _ => none }
def HeavyhittersValidWrongFalsely : Prop := heavyhittersValidRow.holds Try.pinned (OpenSpec.ofChange heavyhittersValidWrong)

/-- 'lookoutlaw32.HeavyhittersBounds': WHATEVER THE INPUT: true; the input reads as it did. -/
def heavyhittersBoundsSpec : ChangeSpec := { name := "heavyhittersBounds", fn := fun _ => fun
  | [d1, d2, d3] => { results := [.lit (.bool true)], args := [d1, d2, d3] }
  | _ => none }
def heavyhittersBoundsRow : OpenClaim := { program := "ytgpkpeefbkcjeaa", sum := "4b80d39ce9851166ed5b8b7d2e69ad410b488119b331d69594efd8c65e0c3c8c", func := "lookout/lookoutlaw32.HeavyhittersBounds", spec := "heavyhittersBounds", unfollowed := true, recurses := true, apart := false }
def HeavyhittersBoundsSaid : Prop := heavyhittersBoundsRow.holds Try.pinned (OpenSpec.ofChange heavyhittersBoundsSpec)

/-- ITS FALSE NEIGHBOUR: 'it returns false'. Refute it at one input. -/
def heavyhittersBoundsWrong : ChangeSpec := { name := "heavyhittersBounds", fn := fun _ => fun
  | [d1, d2, d3] => { results := [.lit (.bool false)], args := [d1, d2, d3] }
  | _ => none }
def HeavyhittersBoundsWrongFalsely : Prop := heavyhittersBoundsRow.holds Try.pinned (OpenSpec.ofChange heavyhittersBoundsWrong)

/-- 'lookoutlaw32.HeavyhittersExact': WHATEVER THE INPUT: true; the input reads as it did. -/
def heavyhittersExactSpec : ChangeSpec := { name := "heavyhittersExact", fn := fun _ => fun
  | [d1, d2] => { results := [.lit (.bool true)], args := [d1, d2] }
  | _ => none }
def heavyhittersExactRow : OpenClaim := { program := "ytgpkpeefbkcjeaa", sum := "4b80d39ce9851166ed5b8b7d2e69ad410b488119b331d69594efd8c65e0c3c8c", func := "lookout/lookoutlaw32.HeavyhittersExact", spec := "heavyhittersExact", unfollowed := true, recurses := true, apart := false }
def HeavyhittersExactSaid : Prop := heavyhittersExactRow.holds Try.pinned (OpenSpec.ofChange heavyhittersExactSpec)

/-- ITS FALSE NEIGHBOUR: 'it returns false'. Refute it at one input. -/
def heavyhittersExactWrong : ChangeSpec := { name := "heavyhittersExact", fn := fun _ => fun
  | [d1, d2] => { results := [.lit (.bool false)], args := [d1, d2] }
  | _ => none }
def HeavyhittersExactWrongFalsely : Prop := heavyhittersExactRow.holds Try.pinned (OpenSpec.ofChange heavyhittersExactWrong)

/-- 'lookoutlaw32.HeavyhittersFrequent': WHATEVER THE INPUT: true; the input reads as it did. -/
def heavyhittersFrequentSpec : ChangeSpec := { name := "heavyhittersFrequent", fn := fun _ => fun
  | [d1, d2, d3] => { results := [.lit (.bool true)], args := [d1, d2, d3] }
  | _ => none }
def heavyhittersFrequentRow : OpenClaim := { program := "ytgpkpeefbkcjeaa", sum := "4b80d39ce9851166ed5b8b7d2e69ad410b488119b331d69594efd8c65e0c3c8c", func := "lookout/lookoutlaw32.HeavyhittersFrequent", spec := "heavyhittersFrequent", unfollowed := true, recurses := true, apart := false }
def HeavyhittersFrequentSaid : Prop := heavyhittersFrequentRow.holds Try.pinned (OpenSpec.ofChange heavyhittersFrequentSpec)

/-- ITS FALSE NEIGHBOUR: 'it returns false'. Refute it at one input. -/
def heavyhittersFrequentWrong : ChangeSpec := { name := "heavyhittersFrequent", fn := fun _ => fun
  | [d1, d2, d3] => { results := [.lit (.bool false)], args := [d1, d2, d3] }
  | _ => none }
def HeavyhittersFrequentWrongFalsely : Prop := heavyhittersFrequentRow.holds Try.pinned (OpenSpec.ofChange heavyhittersFrequentWrong)

/- THE SECOND FORM. 'bulk': how many values and letters a reading holds, each counted each time it is reached (what is shared counts as often as it is met; a slice's spare places count too). A statement '..UptoSaid' is the law's where the arguments, and the package variables that the reading takes, are together of bulk at most 1048576: NARROWER than '..Said'. Prove '..Said' where nothing that the law and all that it calls make is longer than what came in: it says more and counts as full. Else prove '..UptoSaid'. A law counts once. -/
mutual
def uptoBulk {H : Type} : DataW H → Nat
  | .lit (.string bytes) => bytes.length + 1
  | .lit _ => 1
  | .nil => 1
  | .ptr d => uptoBulk d + 1
  | .slice elems spare => uptoBulkAll elems + uptoBulkAll spare + 1
  | .agg parts => uptoBulkAll parts + 1
  | .iface _ d => uptoBulk d + 1
  | .map entries => uptoBulkEntries entries + 1
  | .held _ => 1
def uptoBulkAll {H : Type} : List (DataW H) → Nat
  | [] => 0
  | d :: r => uptoBulk d + uptoBulkAll r
def uptoBulkEntries {H : Type} : List (Lit × DataW H) → Nat
  | [] => 0
  | x :: r => uptoBulkEntry x + uptoBulkEntries r
def uptoBulkEntry {H : Type} : Lit × DataW H → Nat
  | (.string bytes, d) => bytes.length + uptoBulk d + 1
  | (_, d) => uptoBulk d + 1
 end
def uptoSmall : (H : Type) → List (DataW H) → Bool := fun _ ds => decide (uptoBulkAll ds ≤ 1048576)
def OpenSpec.upto (s : _root_.Go.ChangeSpec) : _root_.Go.OpenSpec := { _root_.Go.OpenSpec.ofChange s with cond := some uptoSmall }

/-- 'lookoutlaw32.HeavyhittersAdd', WHERE WHAT IT READS IS OF BULK AT MOST 1048576: true; the input reads as it did. -/
def heavyhittersAddUptoRow : OpenClaim := { program := "ytgpkpeefbkcjeaa", sum := "4b80d39ce9851166ed5b8b7d2e69ad410b488119b331d69594efd8c65e0c3c8c", func := "lookout/lookoutlaw32.HeavyhittersAdd", spec := "heavyhittersAdd", unfollowed := true, recurses := true, apart := false, narrowed := true }
def HeavyhittersAddUptoSaid : Prop := heavyhittersAddUptoRow.holds Try.pinned (OpenSpec.upto heavyhittersAddSpec)

/-- 'lookoutlaw32.HeavyhittersReads', WHERE WHAT IT READS IS OF BULK AT MOST 1048576: true; the input reads as it did. -/
def heavyhittersReadsUptoRow : OpenClaim := { program := "ytgpkpeefbkcjeaa", sum := "4b80d39ce9851166ed5b8b7d2e69ad410b488119b331d69594efd8c65e0c3c8c", func := "lookout/lookoutlaw32.HeavyhittersReads", spec := "heavyhittersReads", unfollowed := true, recurses := true, apart := false, narrowed := true }
def HeavyhittersReadsUptoSaid : Prop := heavyhittersReadsUptoRow.holds Try.pinned (OpenSpec.upto heavyhittersReadsSpec)

/-- 'lookoutlaw32.HeavyhittersMerge', WHERE WHAT IT READS IS OF BULK AT MOST 1048576: true; the input reads as it did. -/
def heavyhittersMergeUptoRow : OpenClaim := { program := "ytgpkpeefbkcjeaa", sum := "4b80d39ce9851166ed5b8b7d2e69ad410b488119b331d69594efd8c65e0c3c8c", func := "lookout/lookoutlaw32.HeavyhittersMerge", spec := "heavyhittersMerge", unfollowed := true, recurses := true, apart := false, narrowed := true }
def HeavyhittersMergeUptoSaid : Prop := heavyhittersMergeUptoRow.holds Try.pinned (OpenSpec.upto heavyhittersMergeSpec)

/-- 'lookoutlaw32.HeavyhittersValid', WHERE WHAT IT READS IS OF BULK AT MOST 1048576: true; the input reads as it did. -/
def heavyhittersValidUptoRow : OpenClaim := { program := "ytgpkpeefbkcjeaa", sum := "4b80d39ce9851166ed5b8b7d2e69ad410b488119b331d69594efd8c65e0c3c8c", func := "lookout/lookoutlaw32.HeavyhittersValid", spec := "heavyhittersValid", unfollowed := true, recurses := true, apart := false, narrowed := true }
def HeavyhittersValidUptoSaid : Prop := heavyhittersValidUptoRow.holds Try.pinned (OpenSpec.upto heavyhittersValidSpec)

/-- 'lookoutlaw32.HeavyhittersBounds', WHERE WHAT IT READS IS OF BULK AT MOST 1048576: true; the input reads as it did. -/
def heavyhittersBoundsUptoRow : OpenClaim := { program := "ytgpkpeefbkcjeaa", sum := "4b80d39ce9851166ed5b8b7d2e69ad410b488119b331d69594efd8c65e0c3c8c", func := "lookout/lookoutlaw32.HeavyhittersBounds", spec := "heavyhittersBounds", unfollowed := true, recurses := true, apart := false, narrowed := true }
def HeavyhittersBoundsUptoSaid : Prop := heavyhittersBoundsUptoRow.holds Try.pinned (OpenSpec.upto heavyhittersBoundsSpec)

/-- 'lookoutlaw32.HeavyhittersExact', WHERE WHAT IT READS IS OF BULK AT MOST 1048576: true; the input reads as it did. -/
def heavyhittersExactUptoRow : OpenClaim := { program := "ytgpkpeefbkcjeaa", sum := "4b80d39ce9851166ed5b8b7d2e69ad410b488119b331d69594efd8c65e0c3c8c", func := "lookout/lookoutlaw32.HeavyhittersExact", spec := "heavyhittersExact", unfollowed := true, recurses := true, apart := false, narrowed := true }
def HeavyhittersExactUptoSaid : Prop := heavyhittersExactUptoRow.holds Try.pinned (OpenSpec.upto heavyhittersExactSpec)

/-- 'lookoutlaw32.HeavyhittersFrequent', WHERE WHAT IT READS IS OF BULK AT MOST 1048576: true; the input reads as it did. -/
def heavyhittersFrequentUptoRow : OpenClaim := { program := "ytgpkpeefbkcjeaa", sum := "4b80d39ce9851166ed5b8b7d2e69ad410b488119b331d69594efd8c65e0c3c8c", func := "lookout/lookoutlaw32.HeavyhittersFrequent", spec := "heavyhittersFrequent", unfollowed := true, recurses := true, apart := false, narrowed := true }
def HeavyhittersFrequentUptoSaid : Prop := heavyhittersFrequentUptoRow.holds Try.pinned (OpenSpec.upto heavyhittersFrequentSpec)

end Rows
end Go.Proofs.Ytgpkpeefbkcjeaa
