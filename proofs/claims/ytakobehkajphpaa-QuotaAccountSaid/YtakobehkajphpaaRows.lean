/-
  No cell of these rows narrows 'for every input' (looked for: loops, veiled, ifaces, maps, wideKeys, modest, calm, conditions, laid).
  DERIVED. THE GIVEN ROWS OF THIS SEAT. 5 by the template 'for every input the law returns true; each argument reads behind the call as it read before'; 0 by the template 'total and deterministic' (their statements: YtakobehkajphpaaTotals.lean).
  GIVEN WITH THE SEED: the statements are not yours to turn. If you find one false, say at which input.
  Laid BY PROGRAM, IN A SANDBOX (cutbox-rows.mjs): the forced cells as the released guide's own fill.sh prints them over the translation 62c8340e5ae2160d… (all of the seat's roots in one cut). By AI agents, Wed Nov 11 2026. No macro, syntax, notation, axiom, sorry.
-/
import Derived.Test.YtakobehkajphpaaChecked
import GoSem.Claim
import GoSem.ClaimJoined
import GoSem.ClaimMapViews
import Derived.JoinedTies
import Derived.KernelRfl
namespace Go.Proofs.Ytakobehkajphpaa
/- THE CELL 'sum', in the pinned program and in every row, IS THE sha256 OF THE DUMP (.gsa) THAT YtakobehkajphpaaProg.lean LOADS. Nothing in Lean hashes anything: it is a label: what it is worth is what the hold of that sum in a sandbox is worth. -/
noncomputable def Try.pinned : Pinned := { name := "ytakobehkajphpaa", sum := "62c8340e5ae2160d8fd0b2b25edc810bea165919c623c010812d3bf960438a2d", checked := Try.checked }
namespace Rows
def none {H : Type} : Left H := { results := [], args := [] }

/-- 'lookoutlaw55.QuotaRate': WHATEVER THE INPUT: true; the input reads as it did. -/
def quotaRateSpec : ChangeSpec := { name := "quotaRate", fn := fun _ => fun
  | [d1, d2, d3] => { results := [.lit (.bool true)], args := [d1, d2, d3] }
  | _ => none }
def quotaRateRow : OpenClaim := { program := "ytakobehkajphpaa", sum := "62c8340e5ae2160d8fd0b2b25edc810bea165919c623c010812d3bf960438a2d", func := "lookout/lookoutlaw55.QuotaRate", spec := "quotaRate", inPlace := ["internal/bytealg.IndexByteString", "internal/bytealg.IndexString", "slices.overlaps[[]lookout/api.Label]"], unfollowed := true, recurses := true, named := ["internal/bytealg.MaxLen"], apart := false }
def QuotaRateSaid : Prop := quotaRateRow.holds Try.pinned (OpenSpec.ofChange quotaRateSpec)

/-- ITS FALSE NEIGHBOUR: 'it returns false'. Refute it at one input. -/
def quotaRateWrong : ChangeSpec := { name := "quotaRate", fn := fun _ => fun
  | [d1, d2, d3] => { results := [.lit (.bool false)], args := [d1, d2, d3] }
  | _ => none }
def QuotaRateWrongFalsely : Prop := quotaRateRow.holds Try.pinned (OpenSpec.ofChange quotaRateWrong)

/-- 'lookoutlaw55.QuotaBest': WHATEVER THE INPUT: true; the input reads as it did. -/
def quotaBestSpec : ChangeSpec := { name := "quotaBest", fn := fun _ => fun
  | [d1, d2, d3, d4] => { results := [.lit (.bool true)], args := [d1, d2, d3, d4] }
  | _ => none }
def quotaBestRow : OpenClaim := { program := "ytakobehkajphpaa", sum := "62c8340e5ae2160d8fd0b2b25edc810bea165919c623c010812d3bf960438a2d", func := "lookout/lookoutlaw55.QuotaBest", spec := "quotaBest", inPlace := ["internal/bytealg.IndexByteString", "internal/bytealg.IndexString", "slices.overlaps[[]lookout/api.Label]"], unfollowed := true, recurses := true, named := ["internal/bytealg.MaxLen"], apart := false }
def QuotaBestSaid : Prop := quotaBestRow.holds Try.pinned (OpenSpec.ofChange quotaBestSpec)

/-- ITS FALSE NEIGHBOUR: 'it returns false'. Refute it at one input. -/
def quotaBestWrong : ChangeSpec := { name := "quotaBest", fn := fun _ => fun
  | [d1, d2, d3, d4] => { results := [.lit (.bool false)], args := [d1, d2, d3, d4] }
  | _ => none }
def QuotaBestWrongFalsely : Prop := quotaBestRow.holds Try.pinned (OpenSpec.ofChange quotaBestWrong)

/-- 'lookoutlaw55.QuotaTenant': WHATEVER THE INPUT: true; the input reads as it did. -/
def quotaTenantSpec : ChangeSpec := { name := "quotaTenant", fn := fun _ => fun
  | [d1, d2, d3] => { results := [.lit (.bool true)], args := [d1, d2, d3] }
  | _ => none }
def quotaTenantRow : OpenClaim := { program := "ytakobehkajphpaa", sum := "62c8340e5ae2160d8fd0b2b25edc810bea165919c623c010812d3bf960438a2d", func := "lookout/lookoutlaw55.QuotaTenant", spec := "quotaTenant", inPlace := ["internal/bytealg.IndexByteString", "internal/bytealg.IndexString", "slices.overlaps[[]lookout/api.Label]"], unfollowed := true, recurses := true, named := ["internal/bytealg.MaxLen"], apart := false }
def QuotaTenantSaid : Prop := quotaTenantRow.holds Try.pinned (OpenSpec.ofChange quotaTenantSpec)

/-- ITS FALSE NEIGHBOUR: 'it returns false'. Refute it at one input. -/
def quotaTenantWrong : ChangeSpec := { name := "quotaTenant", fn := fun _ => fun
  | [d1, d2, d3] => { results := [.lit (.bool false)], args := [d1, d2, d3] }
  | _ => none }
def QuotaTenantWrongFalsely : Prop := quotaTenantRow.holds Try.pinned (OpenSpec.ofChange quotaTenantWrong)

/-- 'lookoutlaw55.QuotaRefill': WHATEVER THE INPUT: true; the input reads as it did. -/
def quotaRefillSpec : ChangeSpec := { name := "quotaRefill", fn := fun _ => fun
  | [d1, d2, d3] => { results := [.lit (.bool true)], args := [d1, d2, d3] }
  | _ => none }
def quotaRefillRow : OpenClaim := { program := "ytakobehkajphpaa", sum := "62c8340e5ae2160d8fd0b2b25edc810bea165919c623c010812d3bf960438a2d", func := "lookout/lookoutlaw55.QuotaRefill", spec := "quotaRefill", inPlace := ["internal/bytealg.IndexByteString", "internal/bytealg.IndexString", "slices.overlaps[[]lookout/api.Label]"], unfollowed := true, recurses := true, named := ["internal/bytealg.MaxLen"], apart := false }
def QuotaRefillSaid : Prop := quotaRefillRow.holds Try.pinned (OpenSpec.ofChange quotaRefillSpec)

/-- ITS FALSE NEIGHBOUR: 'it returns false'. Refute it at one input. -/
def quotaRefillWrong : ChangeSpec := { name := "quotaRefill", fn := fun _ => fun
  | [d1, d2, d3] => { results := [.lit (.bool false)], args := [d1, d2, d3] }
  | _ => none }
def QuotaRefillWrongFalsely : Prop := quotaRefillRow.holds Try.pinned (OpenSpec.ofChange quotaRefillWrong)

/-- 'lookoutlaw55.QuotaAccount': WHATEVER THE INPUT: true; the input reads as it did. -/
def quotaAccountSpec : ChangeSpec := { name := "quotaAccount", fn := fun _ => fun
  | [d1, d2, d3, d4] => { results := [.lit (.bool true)], args := [d1, d2, d3, d4] }
  | _ => none }
def quotaAccountRow : OpenClaim := { program := "ytakobehkajphpaa", sum := "62c8340e5ae2160d8fd0b2b25edc810bea165919c623c010812d3bf960438a2d", func := "lookout/lookoutlaw55.QuotaAccount", spec := "quotaAccount", inPlace := ["internal/bytealg.IndexByteString", "internal/bytealg.IndexString", "slices.overlaps[[]lookout/api.Label]"], unfollowed := true, recurses := true, named := ["internal/bytealg.MaxLen"], apart := false }
def QuotaAccountSaid : Prop := quotaAccountRow.holds Try.pinned (OpenSpec.ofChange quotaAccountSpec)

/-- ITS FALSE NEIGHBOUR: 'it returns false'. Refute it at one input. -/
def quotaAccountWrong : ChangeSpec := { name := "quotaAccount", fn := fun _ => fun
  | [d1, d2, d3, d4] => { results := [.lit (.bool false)], args := [d1, d2, d3, d4] }
  | _ => none }
def QuotaAccountWrongFalsely : Prop := quotaAccountRow.holds Try.pinned (OpenSpec.ofChange quotaAccountWrong)

/- THE SECOND FORM. 'bulk': how many values and letters a reading holds, each counted each time it is reached (what is shared counts as often as it is met; a slice's spare places count too). A statement '..UptoSaid' is the law's where the arguments, and the package variables that the reading takes, are together of bulk at most 1048576: NARROWER than '..Said'. Prove '..Said' where nothing that the law and all that it calls make is longer than what came in: it says more and counts as full. Else prove '..UptoSaid'. A law counts once. -/
mutual
def uptoBulk {H : Type} : DataW H → Nat
  | .lit (.string bytes) => bytes.length + 1
  | .lit _ => 1
  | .nil => 1
  | .ptr d => uptoBulk d + 1
  | .slice elems spare => uptoBulkAll elems + uptoBulkAll spare + 1
  | .agg parts => uptoBulkAll parts + 1
  | .iface _ d => uptoBulk d + 1
  | .map entries => uptoBulkEntries entries + 1
  | .held _ => 1
def uptoBulkAll {H : Type} : List (DataW H) → Nat
  | [] => 0
  | d :: r => uptoBulk d + uptoBulkAll r
def uptoBulkEntries {H : Type} : List (Lit × DataW H) → Nat
  | [] => 0
  | x :: r => uptoBulkEntry x + uptoBulkEntries r
def uptoBulkEntry {H : Type} : Lit × DataW H → Nat
  | (.string bytes, d) => bytes.length + uptoBulk d + 1
  | (_, d) => uptoBulk d + 1
 end
def uptoSmall : (H : Type) → List (DataW H) → Bool := fun _ ds => decide (uptoBulkAll ds ≤ 1048576)
def OpenSpec.upto (s : _root_.Go.ChangeSpec) : _root_.Go.OpenSpec := { _root_.Go.OpenSpec.ofChange s with cond := some uptoSmall }

/-- 'lookoutlaw55.QuotaRate', WHERE WHAT IT READS IS OF BULK AT MOST 1048576: true; the input reads as it did. -/
def quotaRateUptoRow : OpenClaim := { program := "ytakobehkajphpaa", sum := "62c8340e5ae2160d8fd0b2b25edc810bea165919c623c010812d3bf960438a2d", func := "lookout/lookoutlaw55.QuotaRate", spec := "quotaRate", inPlace := ["internal/bytealg.IndexByteString", "internal/bytealg.IndexString", "slices.overlaps[[]lookout/api.Label]"], unfollowed := true, recurses := true, named := ["internal/bytealg.MaxLen"], apart := false, narrowed := true }
def QuotaRateUptoSaid : Prop := quotaRateUptoRow.holds Try.pinned (OpenSpec.upto quotaRateSpec)

/-- 'lookoutlaw55.QuotaBest', WHERE WHAT IT READS IS OF BULK AT MOST 1048576: true; the input reads as it did. -/
def quotaBestUptoRow : OpenClaim := { program := "ytakobehkajphpaa", sum := "62c8340e5ae2160d8fd0b2b25edc810bea165919c623c010812d3bf960438a2d", func := "lookout/lookoutlaw55.QuotaBest", spec := "quotaBest", inPlace := ["internal/bytealg.IndexByteString", "internal/bytealg.IndexString", "slices.overlaps[[]lookout/api.Label]"], unfollowed := true, recurses := true, named := ["internal/bytealg.MaxLen"], apart := false, narrowed := true }
def QuotaBestUptoSaid : Prop := quotaBestUptoRow.holds Try.pinned (OpenSpec.upto quotaBestSpec)

/-- 'lookoutlaw55.QuotaTenant', WHERE WHAT IT READS IS OF BULK AT MOST 1048576: true; the input reads as it did. -/
def quotaTenantUptoRow : OpenClaim := { program := "ytakobehkajphpaa", sum := "62c8340e5ae2160d8fd0b2b25edc810bea165919c623c010812d3bf960438a2d", func := "lookout/lookoutlaw55.QuotaTenant", spec := "quotaTenant", inPlace := ["internal/bytealg.IndexByteString", "internal/bytealg.IndexString", "slices.overlaps[[]lookout/api.Label]"], unfollowed := true, recurses := true, named := ["internal/bytealg.MaxLen"], apart := false, narrowed := true }
def QuotaTenantUptoSaid : Prop := quotaTenantUptoRow.holds Try.pinned (OpenSpec.upto quotaTenantSpec)

/-- 'lookoutlaw55.QuotaRefill', WHERE WHAT IT READS IS OF BULK AT MOST 1048576: true; the input reads as it did. -/
def quotaRefillUptoRow : OpenClaim := { program := "ytakobehkajphpaa", sum := "62c8340e5ae2160d8fd0b2b25edc810bea165919c623c010812d3bf960438a2d", func := "lookout/lookoutlaw55.QuotaRefill", spec := "quotaRefill", inPlace := ["internal/bytealg.IndexByteString", "internal/bytealg.IndexString", "slices.overlaps[[]lookout/api.Label]"], unfollowed := true, recurses := true, named := ["internal/bytealg.MaxLen"], apart := false, narrowed := true }
def QuotaRefillUptoSaid : Prop := quotaRefillUptoRow.holds Try.pinned (OpenSpec.upto quotaRefillSpec)

/-- 'lookoutlaw55.QuotaAccount', WHERE WHAT IT READS IS OF BULK AT MOST 1048576: true; the input reads as it did. -/
def quotaAccountUptoRow : OpenClaim := { program := "ytakobehkajphpaa", sum := "62c8340e5ae2160d8fd0b2b25edc810bea165919c623c010812d3bf960438a2d", func := "lookout/lookoutlaw55.QuotaAccount", spec := "quotaAccount", inPlace := ["internal/bytealg.IndexByteString", "internal/bytealg.IndexString", "slices.overlaps[[]lookout/api.Label]"], unfollowed := true, recurses := true, named := ["internal/bytealg.MaxLen"], apart := false, narrowed := true }
def QuotaAccountUptoSaid : Prop := quotaAccountUptoRow.holds Try.pinned (OpenSpec.upto quotaAccountSpec)

end Rows
end Go.Proofs.Ytakobehkajphpaa
