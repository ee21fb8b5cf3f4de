/-
  No cell of these rows narrows 'for every input' (looked for: loops, veiled, ifaces, maps, wideKeys, modest, calm, conditions, laid).
  DERIVED. THE GIVEN ROWS OF THIS SEAT. 4 by the template 'for every input the law returns true; each argument reads behind the call as it read before'; 0 by the template 'total and deterministic' (their statements: YtmibkdnmjjdelaaTotals.lean).
  GIVEN WITH THE SEED: the statements are not yours to turn. If you find one false, say at which input.
  Laid BY PROGRAM, IN A SANDBOX (cutbox-rows.mjs): the forced cells as the released guide's own fill.sh prints them over the translation 4dc4363ef3d46eb7… (all of the seat's roots in one cut). By AI agents, Wed Nov 11 2026. No macro, syntax, notation, axiom, sorry.
-/
import Derived.Test.YtmibkdnmjjdelaaChecked
import GoSem.Claim
import GoSem.ClaimJoined
import GoSem.ClaimMapViews
import Derived.JoinedTies
import Derived.KernelRfl
namespace Go.Proofs.Ytmibkdnmjjdelaa
/- THE CELL 'sum', in the pinned program and in every row, IS THE sha256 OF THE DUMP (.gsa) THAT YtmibkdnmjjdelaaProg.lean LOADS. Nothing in Lean hashes anything: it is a label: what it is worth is what the hold of that sum in a sandbox is worth. -/
noncomputable def Try.pinned : Pinned := { name := "ytmibkdnmjjdelaa", sum := "4dc4363ef3d46eb7191b95fc557cc6941a74fd908eccd9aff1dbf96088deaa09", checked := Try.checked }
namespace Rows
def none {H : Type} : Left H := { results := [], args := [] }

/-- 'wainscotlaw12.ViewReads': WHATEVER THE INPUT: true; the input reads as it did. -/
def viewReadsSpec : ChangeSpec := { name := "viewReads", fn := fun _ => fun
  | [d1, d2, d3, d4, d5] => { results := [.lit (.bool true)], args := [d1, d2, d3, d4, d5] }
  | _ => none }
def viewReadsRow : OpenClaim := { program := "ytmibkdnmjjdelaa", sum := "4dc4363ef3d46eb7191b95fc557cc6941a74fd908eccd9aff1dbf96088deaa09", func := "wainscot/wainscotlaw12.ViewReads", spec := "viewReads", inPlace := ["internal/bytealg.Compare", "maps.clone"], unfollowed := true, recurses := true, plainKeys := false, apart := false }
def ViewReadsSaid : Prop := viewReadsRow.holds Try.pinned (OpenSpec.ofChange viewReadsSpec)

/-- ITS FALSE NEIGHBOUR: 'it returns false'. Refute it at one input. -/
def viewReadsWrong : ChangeSpec := { name := "viewReads", fn := fun _ => fun
  | [d1, d2, d3, d4, d5] => { results := [.lit (.bool false)], args := [d1, d2, d3, d4, d5] }
  | _ => none }
def ViewReadsWrongFalsely : Prop := viewReadsRow.holds Try.pinned (OpenSpec.ofChange viewReadsWrong)

/-- 'wainscotlaw12.ViewApplies': WHATEVER THE INPUT: true; the input reads as it did. -/
def viewAppliesSpec : ChangeSpec := { name := "viewApplies", fn := fun _ => fun
  | [d1, d2, d3] => { results := [.lit (.bool true)], args := [d1, d2, d3] }
  | _ => none }
def viewAppliesRow : OpenClaim := { program := "ytmibkdnmjjdelaa", sum := "4dc4363ef3d46eb7191b95fc557cc6941a74fd908eccd9aff1dbf96088deaa09", func := "wainscot/wainscotlaw12.ViewApplies", spec := "viewApplies", inPlace := ["internal/bytealg.Compare", "maps.clone"], unfollowed := true, recurses := true, plainKeys := false, apart := false }
def ViewAppliesSaid : Prop := viewAppliesRow.holds Try.pinned (OpenSpec.ofChange viewAppliesSpec)

/-- ITS FALSE NEIGHBOUR: 'it returns false'. Refute it at one input. -/
def viewAppliesWrong : ChangeSpec := { name := "viewApplies", fn := fun _ => fun
  | [d1, d2, d3] => { results := [.lit (.bool false)], args := [d1, d2, d3] }
  | _ => none }
def ViewAppliesWrongFalsely : Prop := viewAppliesRow.holds Try.pinned (OpenSpec.ofChange viewAppliesWrong)

/-- 'wainscotlaw12.ViewBacks': WHATEVER THE INPUT: true; the input reads as it did. -/
def viewBacksSpec : ChangeSpec := { name := "viewBacks", fn := fun _ => fun
  | [d1, d2, d3] => { results := [.lit (.bool true)], args := [d1, d2, d3] }
  | _ => none }
def viewBacksRow : OpenClaim := { program := "ytmibkdnmjjdelaa", sum := "4dc4363ef3d46eb7191b95fc557cc6941a74fd908eccd9aff1dbf96088deaa09", func := "wainscot/wainscotlaw12.ViewBacks", spec := "viewBacks", inPlace := ["internal/bytealg.Compare", "maps.clone"], unfollowed := true, recurses := true, plainKeys := false, apart := false }
def ViewBacksSaid : Prop := viewBacksRow.holds Try.pinned (OpenSpec.ofChange viewBacksSpec)

/-- ITS FALSE NEIGHBOUR: 'it returns false'. Refute it at one input. -/
def viewBacksWrong : ChangeSpec := { name := "viewBacks", fn := fun _ => fun
  | [d1, d2, d3] => { results := [.lit (.bool false)], args := [d1, d2, d3] }
  | _ => none }
def ViewBacksWrongFalsely : Prop := viewBacksRow.holds Try.pinned (OpenSpec.ofChange viewBacksWrong)

/-- 'wainscotlaw12.ViewOver': WHATEVER THE INPUT: true; the input reads as it did. -/
def viewOverSpec : ChangeSpec := { name := "viewOver", fn := fun _ => fun
  | [d1, d2, d3] => { results := [.lit (.bool true)], args := [d1, d2, d3] }
  | _ => none }
def viewOverRow : OpenClaim := { program := "ytmibkdnmjjdelaa", sum := "4dc4363ef3d46eb7191b95fc557cc6941a74fd908eccd9aff1dbf96088deaa09", func := "wainscot/wainscotlaw12.ViewOver", spec := "viewOver", inPlace := ["internal/bytealg.Compare", "maps.clone"], unfollowed := true, recurses := true, plainKeys := false, apart := false }
def ViewOverSaid : Prop := viewOverRow.holds Try.pinned (OpenSpec.ofChange viewOverSpec)

/-- ITS FALSE NEIGHBOUR: 'it returns false'. Refute it at one input. -/
def viewOverWrong : ChangeSpec := { name := "viewOver", fn := fun _ => fun
  | [d1, d2, d3] => { results := [.lit (.bool false)], args := [d1, d2, d3] }
  | _ => none }
def ViewOverWrongFalsely : Prop := viewOverRow.holds Try.pinned (OpenSpec.ofChange viewOverWrong)

/- THE SECOND FORM. 'bulk': how many values and letters a reading holds, each counted each time it is reached (what is shared counts as often as it is met; a slice's spare places count too). A statement '..UptoSaid' is the law's where the arguments, and the package variables that the reading takes, are together of bulk at most 1048576: NARROWER than '..Said'. Prove '..Said' where nothing that the law and all that it calls make is longer than what came in: it says more and counts as full. Else prove '..UptoSaid'. A law counts once. -/
mutual
def uptoBulk {H : Type} : DataW H → Nat
  | .lit (.string bytes) => bytes.length + 1
  | .lit _ => 1
  | .nil => 1
  | .ptr d => uptoBulk d + 1
  | .slice elems spare => uptoBulkAll elems + uptoBulkAll spare + 1
  | .agg parts => uptoBulkAll parts + 1
  | .iface _ d => uptoBulk d + 1
  | .map entries => uptoBulkEntries entries + 1
  | .held _ => 1
def uptoBulkAll {H : Type} : List (DataW H) → Nat
  | [] => 0
  | d :: r => uptoBulk d + uptoBulkAll r
def uptoBulkEntries {H : Type} : List (Lit × DataW H) → Nat
  | [] => 0
  | x :: r => uptoBulkEntry x + uptoBulkEntries r
def uptoBulkEntry {H : Type} : Lit × DataW H → Nat
  | (.string bytes, d) => bytes.length + uptoBulk d + 1
  | (_, d) => uptoBulk d + 1
 end
def uptoSmall : (H : Type) → List (DataW H) → Bool := fun _ ds => decide (uptoBulkAll ds ≤ 1048576)
def OpenSpec.upto (s : _root_.Go.ChangeSpec) : _root_.Go.OpenSpec := { _root_.Go.OpenSpec.ofChange s with cond := some uptoSmall }

/-- 'wainscotlaw12.ViewReads', WHERE WHAT IT READS IS OF BULK AT MOST 1048576: true; the input reads as it did. -/
def viewReadsUptoRow : OpenClaim := { program := "ytmibkdnmjjdelaa", sum := "4dc4363ef3d46eb7191b95fc557cc6941a74fd908eccd9aff1dbf96088deaa09", func := "wainscot/wainscotlaw12.ViewReads", spec := "viewReads", inPlace := ["internal/bytealg.Compare", "maps.clone"], unfollowed := true, recurses := true, plainKeys := false, apart := false, narrowed := true }
def ViewReadsUptoSaid : Prop := viewReadsUptoRow.holds Try.pinned (OpenSpec.upto viewReadsSpec)

/-- 'wainscotlaw12.ViewApplies', WHERE WHAT IT READS IS OF BULK AT MOST 1048576: true; the input reads as it did. -/
def viewAppliesUptoRow : OpenClaim := { program := "ytmibkdnmjjdelaa", sum := "4dc4363ef3d46eb7191b95fc557cc6941a74fd908eccd9aff1dbf96088deaa09", func := "wainscot/wainscotlaw12.ViewApplies", spec := "viewApplies", inPlace := ["internal/bytealg.Compare", "maps.clone"], unfollowed := true, recurses := true, plainKeys := false, apart := false, narrowed := true }
def ViewAppliesUptoSaid : Prop := viewAppliesUptoRow.holds Try.pinned (OpenSpec.upto viewAppliesSpec)

/-- 'wainscotlaw12.ViewBacks', WHERE WHAT IT READS IS OF BULK AT MOST 1048576: true; the input reads as it did. -/
def viewBacksUptoRow : OpenClaim := { program := "ytmibkdnmjjdelaa", sum := "4dc4363ef3d46eb7191b95fc557cc6941a74fd908eccd9aff1dbf96088deaa09", func := "wainscot/wainscotlaw12.ViewBacks", spec := "viewBacks", inPlace := ["internal/bytealg.Compare", "maps.clone"], unfollowed := true, recurses := true, plainKeys := false, apart := false, narrowed := true }
def ViewBacksUptoSaid : Prop := viewBacksUptoRow.holds Try.pinned (OpenSpec.upto viewBacksSpec)

/-- 'wainscotlaw12.ViewOver', WHERE WHAT IT READS IS OF BULK AT MOST 1048576: true; the input reads as it did. -/
def viewOverUptoRow : OpenClaim := { program := "ytmibkdnmjjdelaa", sum := "4dc4363ef3d46eb7191b95fc557cc6941a74fd908eccd9aff1dbf96088deaa09", func := "wainscot/wainscotlaw12.ViewOver", spec := "viewOver", inPlace := ["internal/bytealg.Compare", "maps.clone"], unfollowed := true, recurses := true, plainKeys := false, apart := false, narrowed := true }
def ViewOverUptoSaid : Prop := viewOverUptoRow.holds Try.pinned (OpenSpec.upto viewOverSpec)

end Rows
end Go.Proofs.Ytmibkdnmjjdelaa
