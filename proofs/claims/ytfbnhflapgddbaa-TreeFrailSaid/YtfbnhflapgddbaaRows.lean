/-
  No cell of these rows narrows 'for every input' (looked for: loops, veiled, ifaces, maps, wideKeys, modest, calm, conditions, laid).
  DERIVED. THE GIVEN ROWS OF THIS SEAT. 10 by the template 'for every input the law returns true; each argument reads behind the call as it read before'; 0 by the template 'total and deterministic' (their statements: YtfbnhflapgddbaaTotals.lean).
  GIVEN WITH THE SEED: the statements are not yours to turn. If you find one false, say at which input.
  Laid BY PROGRAM, IN A SANDBOX (cutbox-rows.mjs): the forced cells as the released guide's own fill.sh prints them over the translation ddcc405c68846088… (all of the seat's roots in one cut). By AI agents, Wed Nov 11 2026. No macro, syntax, notation, axiom, sorry.
-/
import Derived.Test.YtfbnhflapgddbaaChecked
import GoSem.Claim
import GoSem.ClaimJoined
import GoSem.ClaimMapViews
import Derived.JoinedTies
import Derived.KernelRfl
namespace Go.Proofs.Ytfbnhflapgddbaa
/- THE CELL 'sum', in the pinned program and in every row, IS THE sha256 OF THE DUMP (.gsa) THAT YtfbnhflapgddbaaProg.lean LOADS. Nothing in Lean hashes anything: it is a label: what it is worth is what the hold of that sum in a sandbox is worth. -/
noncomputable def Try.pinned : Pinned := { name := "ytfbnhflapgddbaa", sum := "ddcc405c68846088f5ad2e918eaa36207402447d416fedef86870003df9b4c73", checked := Try.checked }
namespace Rows
def none {H : Type} : Left H := { results := [], args := [] }

/-- 'wainscotlaw07.TreeOrder': WHATEVER THE INPUT: true; the input reads as it did. -/
def treeOrderSpec : ChangeSpec := { name := "treeOrder", fn := fun _ => fun
  | [d1, d2] => { results := [.lit (.bool true)], args := [d1, d2] }
  | _ => none }
def treeOrderRow : OpenClaim := { program := "ytfbnhflapgddbaa", sum := "ddcc405c68846088f5ad2e918eaa36207402447d416fedef86870003df9b4c73", func := "wainscot/wainscotlaw07.TreeOrder", spec := "treeOrder", inPlace := ["internal/bytealg.Compare", "slices.overlaps[wainscot/tree.part]"], unfollowed := true, recurses := true, apart := false }
def TreeOrderSaid : Prop := treeOrderRow.holds Try.pinned (OpenSpec.ofChange treeOrderSpec)

/-- ITS FALSE NEIGHBOUR: 'it returns false'. Refute it at one input. -/
def treeOrderWrong : ChangeSpec := { name := "treeOrder", fn := fun _ => fun
  | [d1, d2] => { results := [.lit (.bool false)], args := [d1, d2] }
  | _ => none }
def TreeOrderWrongFalsely : Prop := treeOrderRow.holds Try.pinned (OpenSpec.ofChange treeOrderWrong)

/-- 'wainscotlaw07.TreeLarge': WHATEVER THE INPUT: true; the input reads as it did. -/
def treeLargeSpec : ChangeSpec := { name := "treeLarge", fn := fun _ => fun
  | [d1, d2, d3, d4] => { results := [.lit (.bool true)], args := [d1, d2, d3, d4] }
  | _ => none }
def treeLargeRow : OpenClaim := { program := "ytfbnhflapgddbaa", sum := "ddcc405c68846088f5ad2e918eaa36207402447d416fedef86870003df9b4c73", func := "wainscot/wainscotlaw07.TreeLarge", spec := "treeLarge", inPlace := ["internal/bytealg.Compare", "slices.overlaps[wainscot/tree.part]"], unfollowed := true, recurses := true, apart := false }
def TreeLargeSaid : Prop := treeLargeRow.holds Try.pinned (OpenSpec.ofChange treeLargeSpec)

/-- ITS FALSE NEIGHBOUR: 'it returns false'. Refute it at one input. -/
def treeLargeWrong : ChangeSpec := { name := "treeLarge", fn := fun _ => fun
  | [d1, d2, d3, d4] => { results := [.lit (.bool false)], args := [d1, d2, d3, d4] }
  | _ => none }
def TreeLargeWrongFalsely : Prop := treeLargeRow.holds Try.pinned (OpenSpec.ofChange treeLargeWrong)

/-- 'wainscotlaw07.TreeFrail': WHATEVER THE INPUT: true; the input reads as it did. -/
def treeFrailSpec : ChangeSpec := { name := "treeFrail", fn := fun _ => fun
  | [d1, d2, d3] => { results := [.lit (.bool true)], args := [d1, d2, d3] }
  | _ => none }
def treeFrailRow : OpenClaim := { program := "ytfbnhflapgddbaa", sum := "ddcc405c68846088f5ad2e918eaa36207402447d416fedef86870003df9b4c73", func := "wainscot/wainscotlaw07.TreeFrail", spec := "treeFrail", inPlace := ["internal/bytealg.Compare", "slices.overlaps[wainscot/tree.part]"], unfollowed := true, recurses := true, apart := false }
def TreeFrailSaid : Prop := treeFrailRow.holds Try.pinned (OpenSpec.ofChange treeFrailSpec)

/-- ITS FALSE NEIGHBOUR: 'it returns false'. Refute it at one input. -/
def treeFrailWrong : ChangeSpec := { name := "treeFrail", fn := fun _ => fun
  | [d1, d2, d3] => { results := [.lit (.bool false)], args := [d1, d2, d3] }
  | _ => none }
def TreeFrailWrongFalsely : Prop := treeFrailRow.holds Try.pinned (OpenSpec.ofChange treeFrailWrong)

/-- 'wainscotlaw07.TreeChecks': WHATEVER THE INPUT: true; the input reads as it did. -/
def treeChecksSpec : ChangeSpec := { name := "treeChecks", fn := fun _ => fun
  | [d1, d2] => { results := [.lit (.bool true)], args := [d1, d2] }
  | _ => none }
def treeChecksRow : OpenClaim := { program := "ytfbnhflapgddbaa", sum := "ddcc405c68846088f5ad2e918eaa36207402447d416fedef86870003df9b4c73", func := "wainscot/wainscotlaw07.TreeChecks", spec := "treeChecks", inPlace := ["internal/bytealg.Compare", "slices.overlaps[wainscot/tree.part]"], unfollowed := true, recurses := true, apart := false }
def TreeChecksSaid : Prop := treeChecksRow.holds Try.pinned (OpenSpec.ofChange treeChecksSpec)

/-- ITS FALSE NEIGHBOUR: 'it returns false'. Refute it at one input. -/
def treeChecksWrong : ChangeSpec := { name := "treeChecks", fn := fun _ => fun
  | [d1, d2] => { results := [.lit (.bool false)], args := [d1, d2] }
  | _ => none }
def TreeChecksWrongFalsely : Prop := treeChecksRow.holds Try.pinned (OpenSpec.ofChange treeChecksWrong)

/-- 'wainscotlaw07.TreeSpoilt': WHATEVER THE INPUT: true; the input reads as it did. -/
def treeSpoiltSpec : ChangeSpec := { name := "treeSpoilt", fn := fun _ => fun
  | [d1, d2, d3] => { results := [.lit (.bool true)], args := [d1, d2, d3] }
  | _ => none }
def treeSpoiltRow : OpenClaim := { program := "ytfbnhflapgddbaa", sum := "ddcc405c68846088f5ad2e918eaa36207402447d416fedef86870003df9b4c73", func := "wainscot/wainscotlaw07.TreeSpoilt", spec := "treeSpoilt", inPlace := ["internal/bytealg.Compare", "slices.overlaps[wainscot/tree.part]"], unfollowed := true, recurses := true, apart := false }
def TreeSpoiltSaid : Prop := treeSpoiltRow.holds Try.pinned (OpenSpec.ofChange treeSpoiltSpec)

/-- ITS FALSE NEIGHBOUR: 'it returns false'. Refute it at one input. -/
def treeSpoiltWrong : ChangeSpec := { name := "treeSpoilt", fn := fun _ => fun
  | [d1, d2, d3] => { results := [.lit (.bool false)], args := [d1, d2, d3] }
  | _ => none }
def TreeSpoiltWrongFalsely : Prop := treeSpoiltRow.holds Try.pinned (OpenSpec.ofChange treeSpoiltWrong)

/-- 'wainscotlaw07.TreeGets': WHATEVER THE INPUT: true; the input reads as it did. -/
def treeGetsSpec : ChangeSpec := { name := "treeGets", fn := fun _ => fun
  | [d1, d2] => { results := [.lit (.bool true)], args := [d1, d2] }
  | _ => none }
def treeGetsRow : OpenClaim := { program := "ytfbnhflapgddbaa", sum := "ddcc405c68846088f5ad2e918eaa36207402447d416fedef86870003df9b4c73", func := "wainscot/wainscotlaw07.TreeGets", spec := "treeGets", inPlace := ["internal/bytealg.Compare", "slices.overlaps[wainscot/tree.part]"], unfollowed := true, recurses := true, apart := false }
def TreeGetsSaid : Prop := treeGetsRow.holds Try.pinned (OpenSpec.ofChange treeGetsSpec)

/-- ITS FALSE NEIGHBOUR: 'it returns false'. Refute it at one input. -/
def treeGetsWrong : ChangeSpec := { name := "treeGets", fn := fun _ => fun
  | [d1, d2] => { results := [.lit (.bool false)], args := [d1, d2] }
  | _ => none }
def TreeGetsWrongFalsely : Prop := treeGetsRow.holds Try.pinned (OpenSpec.ofChange treeGetsWrong)

/-- 'wainscotlaw07.TreeScans': WHATEVER THE INPUT: true; the input reads as it did. -/
def treeScansSpec : ChangeSpec := { name := "treeScans", fn := fun _ => fun
  | [d1, d2, d3, d4] => { results := [.lit (.bool true)], args := [d1, d2, d3, d4] }
  | _ => none }
def treeScansRow : OpenClaim := { program := "ytfbnhflapgddbaa", sum := "ddcc405c68846088f5ad2e918eaa36207402447d416fedef86870003df9b4c73", func := "wainscot/wainscotlaw07.TreeScans", spec := "treeScans", inPlace := ["internal/bytealg.Compare", "slices.overlaps[wainscot/tree.part]"], unfollowed := true, recurses := true, apart := false }
def TreeScansSaid : Prop := treeScansRow.holds Try.pinned (OpenSpec.ofChange treeScansSpec)

/-- ITS FALSE NEIGHBOUR: 'it returns false'. Refute it at one input. -/
def treeScansWrong : ChangeSpec := { name := "treeScans", fn := fun _ => fun
  | [d1, d2, d3, d4] => { results := [.lit (.bool false)], args := [d1, d2, d3, d4] }
  | _ => none }
def TreeScansWrongFalsely : Prop := treeScansRow.holds Try.pinned (OpenSpec.ofChange treeScansWrong)

/-- 'wainscotlaw07.TreeShares': WHATEVER THE INPUT: true; the input reads as it did. -/
def treeSharesSpec : ChangeSpec := { name := "treeShares", fn := fun _ => fun
  | [d1, d2] => { results := [.lit (.bool true)], args := [d1, d2] }
  | _ => none }
def treeSharesRow : OpenClaim := { program := "ytfbnhflapgddbaa", sum := "ddcc405c68846088f5ad2e918eaa36207402447d416fedef86870003df9b4c73", func := "wainscot/wainscotlaw07.TreeShares", spec := "treeShares", inPlace := ["internal/bytealg.Compare", "slices.overlaps[wainscot/tree.part]"], unfollowed := true, recurses := true, apart := false }
def TreeSharesSaid : Prop := treeSharesRow.holds Try.pinned (OpenSpec.ofChange treeSharesSpec)

/-- ITS FALSE NEIGHBOUR: 'it returns false'. Refute it at one input. -/
def treeSharesWrong : ChangeSpec := { name := "treeShares", fn := fun _ => fun
  | [d1, d2] => { results := [.lit (.bool false)], args := [d1, d2] }
  | _ => none }
def TreeSharesWrongFalsely : Prop := treeSharesRow.holds Try.pinned (OpenSpec.ofChange treeSharesWrong)

/-- 'wainscotlaw07.TreeNothing': WHATEVER THE INPUT: true; the input reads as it did. -/
def treeNothingSpec : ChangeSpec := { name := "treeNothing", fn := fun _ => fun
  | [d1, d2] => { results := [.lit (.bool true)], args := [d1, d2] }
  | _ => none }
def treeNothingRow : OpenClaim := { program := "ytfbnhflapgddbaa", sum := "ddcc405c68846088f5ad2e918eaa36207402447d416fedef86870003df9b4c73", func := "wainscot/wainscotlaw07.TreeNothing", spec := "treeNothing", inPlace := ["internal/bytealg.Compare", "slices.overlaps[wainscot/tree.part]"], unfollowed := true, recurses := true, apart := false }
def TreeNothingSaid : Prop := treeNothingRow.holds Try.pinned (OpenSpec.ofChange treeNothingSpec)

/-- ITS FALSE NEIGHBOUR: 'it returns false'. Refute it at one input. -/
def treeNothingWrong : ChangeSpec := { name := "treeNothing", fn := fun _ => fun
  | [d1, d2] => { results := [.lit (.bool false)], args := [d1, d2] }
  | _ => none }
def TreeNothingWrongFalsely : Prop := treeNothingRow.holds Try.pinned (OpenSpec.ofChange treeNothingWrong)

/-- 'wainscotlaw07.TreeClones': WHATEVER THE INPUT: true; the input reads as it did. -/
def treeClonesSpec : ChangeSpec := { name := "treeClones", fn := fun _ => fun
  | [d1, d2, d3, d4, d5] => { results := [.lit (.bool true)], args := [d1, d2, d3, d4, d5] }
  | _ => none }
def treeClonesRow : OpenClaim := { program := "ytfbnhflapgddbaa", sum := "ddcc405c68846088f5ad2e918eaa36207402447d416fedef86870003df9b4c73", func := "wainscot/wainscotlaw07.TreeClones", spec := "treeClones", inPlace := ["internal/bytealg.Compare", "slices.overlaps[wainscot/tree.part]"], unfollowed := true, recurses := true, apart := false }
def TreeClonesSaid : Prop := treeClonesRow.holds Try.pinned (OpenSpec.ofChange treeClonesSpec)

/-- ITS FALSE NEIGHBOUR: 'it returns false'. Refute it at one input. -/
def treeClonesWrong : ChangeSpec := { name := "treeClones", fn := fun _ => fun
  | [d1, d2, d3, d4, d5] => { results := [.lit (.bool false)], args := [d1, d2, d3, d4, d5] }
  | _ => none }
def TreeClonesWrongFalsely : Prop := treeClonesRow.holds Try.pinned (OpenSpec.ofChange treeClonesWrong)

/- THE SECOND FORM. 'bulk': how many values and letters a reading holds, each counted each time it is reached (what is shared counts as often as it is met; a slice's spare places count too). A statement '..UptoSaid' is the law's where the arguments, and the package variables that the reading takes, are together of bulk at most 1048576: NARROWER than '..Said'. Prove '..Said' where nothing that the law and all that it calls make is longer than what came in: it says more and counts as full. Else prove '..UptoSaid'. A law counts once. -/
mutual
def uptoBulk {H : Type} : DataW H → Nat
  | .lit (.string bytes) => bytes.length + 1
  | .lit _ => 1
  | .nil => 1
  | .ptr d => uptoBulk d + 1
  | .slice elems spare => uptoBulkAll elems + uptoBulkAll spare + 1
  | .agg parts => uptoBulkAll parts + 1
  | .iface _ d => uptoBulk d + 1
  | .map entries => uptoBulkEntries entries + 1
  | .held _ => 1
def uptoBulkAll {H : Type} : List (DataW H) → Nat
  | [] => 0
  | d :: r => uptoBulk d + uptoBulkAll r
def uptoBulkEntries {H : Type} : List (Lit × DataW H) → Nat
  | [] => 0
  | x :: r => uptoBulkEntry x + uptoBulkEntries r
def uptoBulkEntry {H : Type} : Lit × DataW H → Nat
  | (.string bytes, d) => bytes.length + uptoBulk d + 1
  | (_, d) => uptoBulk d + 1
 end
def uptoSmall : (H : Type) → List (DataW H) → Bool := fun _ ds => decide (uptoBulkAll ds ≤ 1048576)
def OpenSpec.upto (s : _root_.Go.ChangeSpec) : _root_.Go.OpenSpec := { _root_.Go.OpenSpec.ofChange s with cond := some uptoSmall }

/-- 'wainscotlaw07.TreeOrder', WHERE WHAT IT READS IS OF BULK AT MOST 1048576: true; the input reads as it did. -/
def treeOrderUptoRow : OpenClaim := { program := "ytfbnhflapgddbaa", sum := "ddcc405c68846088f5ad2e918eaa36207402447d416fedef86870003df9b4c73", func := "wainscot/wainscotlaw07.TreeOrder", spec := "treeOrder", inPlace := ["internal/bytealg.Compare", "slices.overlaps[wainscot/tree.part]"], unfollowed := true, recurses := true, apart := false, narrowed := true }
def TreeOrderUptoSaid : Prop := treeOrderUptoRow.holds Try.pinned (OpenSpec.upto treeOrderSpec)

/-- 'wainscotlaw07.TreeLarge', WHERE WHAT IT READS IS OF BULK AT MOST 1048576: true; the input reads as it did. -/
def treeLargeUptoRow : OpenClaim := { program := "ytfbnhflapgddbaa", sum := "ddcc405c68846088f5ad2e918eaa36207402447d416fedef86870003df9b4c73", func := "wainscot/wainscotlaw07.TreeLarge", spec := "treeLarge", inPlace := ["internal/bytealg.Compare", "slices.overlaps[wainscot/tree.part]"], unfollowed := true, recurses := true, apart := false, narrowed := true }
def TreeLargeUptoSaid : Prop := treeLargeUptoRow.holds Try.pinned (OpenSpec.upto treeLargeSpec)

/-- 'wainscotlaw07.TreeFrail', WHERE WHAT IT READS IS OF BULK AT MOST 1048576: true; the input reads as it did. -/
def treeFrailUptoRow : OpenClaim := { program := "ytfbnhflapgddbaa", sum := "ddcc405c68846088f5ad2e918eaa36207402447d416fedef86870003df9b4c73", func := "wainscot/wainscotlaw07.TreeFrail", spec := "treeFrail", inPlace := ["internal/bytealg.Compare", "slices.overlaps[wainscot/tree.part]"], unfollowed := true, recurses := true, apart := false, narrowed := true }
def TreeFrailUptoSaid : Prop := treeFrailUptoRow.holds Try.pinned (OpenSpec.upto treeFrailSpec)

/-- 'wainscotlaw07.TreeChecks', WHERE WHAT IT READS IS OF BULK AT MOST 1048576: true; the input reads as it did. -/
def treeChecksUptoRow : OpenClaim := { program := "ytfbnhflapgddbaa", sum := "ddcc405c68846088f5ad2e918eaa36207402447d416fedef86870003df9b4c73", func := "wainscot/wainscotlaw07.TreeChecks", spec := "treeChecks", inPlace := ["internal/bytealg.Compare", "slices.overlaps[wainscot/tree.part]"], unfollowed := true, recurses := true, apart := false, narrowed := true }
def TreeChecksUptoSaid : Prop := treeChecksUptoRow.holds Try.pinned (OpenSpec.upto treeChecksSpec)

/-- 'wainscotlaw07.TreeSpoilt', WHERE WHAT IT READS IS OF BULK AT MOST 1048576: true; the input reads as it did. -/
def treeSpoiltUptoRow : OpenClaim := { program := "ytfbnhflapgddbaa", sum := "ddcc405c68846088f5ad2e918eaa36207402447d416fedef86870003df9b4c73", func := "wainscot/wainscotlaw07.TreeSpoilt", spec := "treeSpoilt", inPlace := ["internal/bytealg.Compare", "slices.overlaps[wainscot/tree.part]"], unfollowed := true, recurses := true, apart := false, narrowed := true }
def TreeSpoiltUptoSaid : Prop := treeSpoiltUptoRow.holds Try.pinned (OpenSpec.upto treeSpoiltSpec)

/-- 'wainscotlaw07.TreeGets', WHERE WHAT IT READS IS OF BULK AT MOST 1048576: true; the input reads as it did. -/
def treeGetsUptoRow : OpenClaim := { program := "ytfbnhflapgddbaa", sum := "ddcc405c68846088f5ad2e918eaa36207402447d416fedef86870003df9b4c73", func := "wainscot/wainscotlaw07.TreeGets", spec := "treeGets", inPlace := ["internal/bytealg.Compare", "slices.overlaps[wainscot/tree.part]"], unfollowed := true, recurses := true, apart := false, narrowed := true }
def TreeGetsUptoSaid : Prop := treeGetsUptoRow.holds Try.pinned (OpenSpec.upto treeGetsSpec)

/-- 'wainscotlaw07.TreeScans', WHERE WHAT IT READS IS OF BULK AT MOST 1048576: true; the input reads as it did. -/
def treeScansUptoRow : OpenClaim := { program := "ytfbnhflapgddbaa", sum := "ddcc405c68846088f5ad2e918eaa36207402447d416fedef86870003df9b4c73", func := "wainscot/wainscotlaw07.TreeScans", spec := "treeScans", inPlace := ["internal/bytealg.Compare", "slices.overlaps[wainscot/tree.part]"], unfollowed := true, recurses := true, apart := false, narrowed := true }
def TreeScansUptoSaid : Prop := treeScansUptoRow.holds Try.pinned (OpenSpec.upto treeScansSpec)

/-- 'wainscotlaw07.TreeShares', WHERE WHAT IT READS IS OF BULK AT MOST 1048576: true; the input reads as it did. -/
def treeSharesUptoRow : OpenClaim := { program := "ytfbnhflapgddbaa", sum := "ddcc405c68846088f5ad2e918eaa36207402447d416fedef86870003df9b4c73", func := "wainscot/wainscotlaw07.TreeShares", spec := "treeShares", inPlace := ["internal/bytealg.Compare", "slices.overlaps[wainscot/tree.part]"], unfollowed := true, recurses := true, apart := false, narrowed := true }
def TreeSharesUptoSaid : Prop := treeSharesUptoRow.holds Try.pinned (OpenSpec.upto treeSharesSpec)

/-- 'wainscotlaw07.TreeNothing', WHERE WHAT IT READS IS OF BULK AT MOST 1048576: true; the input reads as it did. -/
def treeNothingUptoRow : OpenClaim := { program := "ytfbnhflapgddbaa", sum := "ddcc405c68846088f5ad2e918eaa36207402447d416fedef86870003df9b4c73", func := "wainscot/wainscotlaw07.TreeNothing", spec := "treeNothing", inPlace := ["internal/bytealg.Compare", "slices.overlaps[wainscot/tree.part]"], unfollowed := true, recurses := true, apart := false, narrowed := true }
def TreeNothingUptoSaid : Prop := treeNothingUptoRow.holds Try.pinned (OpenSpec.upto treeNothingSpec)

/-- 'wainscotlaw07.TreeClones', WHERE WHAT IT READS IS OF BULK AT MOST 1048576: true; the input reads as it did. -/
def treeClonesUptoRow : OpenClaim := { program := "ytfbnhflapgddbaa", sum := "ddcc405c68846088f5ad2e918eaa36207402447d416fedef86870003df9b4c73", func := "wainscot/wainscotlaw07.TreeClones", spec := "treeClones", inPlace := ["internal/bytealg.Compare", "slices.overlaps[wainscot/tree.part]"], unfollowed := true, recurses := true, apart := false, narrowed := true }
def TreeClonesUptoSaid : Prop := treeClonesUptoRow.holds Try.pinned (OpenSpec.upto treeClonesSpec)

end Rows
end Go.Proofs.Ytfbnhflapgddbaa
