/-
  No cell of these rows narrows 'for every input' (looked for: loops, veiled, ifaces, maps, wideKeys, modest, calm, conditions, laid).
  DERIVED. THE GIVEN ROWS OF THIS SEAT. 7 by the template 'for every input the law returns true; each argument reads behind the call as it read before'; 0 by the template 'total and deterministic' (their statements: YtlcnkhphgekmeaaTotals.lean).
  GIVEN WITH THE SEED: the statements are not yours to turn. If you find one false, say at which input.
  Laid BY PROGRAM, IN A SANDBOX (cutbox-rows.mjs): the forced cells as the released guide's own fill.sh prints them over the translation 6597d941e9efee7b… (all of the seat's roots in one cut). By AI agents, Wed Nov 11 2026. No macro, syntax, notation, axiom, sorry.
-/
import Derived.Test.YtlcnkhphgekmeaaChecked
import GoSem.Claim
import GoSem.ClaimJoined
import GoSem.ClaimMapViews
import Derived.JoinedTies
import Derived.KernelRfl
namespace Go.Proofs.Ytlcnkhphgekmeaa
/- THE CELL 'sum', in the pinned program and in every row, IS THE sha256 OF THE DUMP (.gsa) THAT YtlcnkhphgekmeaaProg.lean LOADS. Nothing in Lean hashes anything: it is a label: what it is worth is what the hold of that sum in a sandbox is worth. -/
noncomputable def Try.pinned : Pinned := { name := "ytlcnkhphgekmeaa", sum := "6597d941e9efee7ba8b7cc0594bbb4cccbf71ed6fd82ed5af887168ad2eb6e30", checked := Try.checked }
namespace Rows
def none {H : Type} : Left H := { results := [], args := [] }

/-- 'wainscotlaw09.DeltaMaps': WHATEVER THE INPUT: true; the input reads as it did. -/
def deltaMapsSpec : ChangeSpec := { name := "deltaMaps", fn := fun _ => fun
  | [d] => { results := [.lit (.bool true)], args := [d] }
  | _ => none }
def deltaMapsRow : OpenClaim := { program := "ytlcnkhphgekmeaa", sum := "6597d941e9efee7ba8b7cc0594bbb4cccbf71ed6fd82ed5af887168ad2eb6e30", func := "wainscot/wainscotlaw09.DeltaMaps", spec := "deltaMaps", inPlace := ["internal/bytealg.Compare", "maps.clone"], unfollowed := true, recurses := true, plainKeys := false, apart := false }
def DeltaMapsSaid : Prop := deltaMapsRow.holds Try.pinned (OpenSpec.ofChange deltaMapsSpec)

/-- ITS FALSE NEIGHBOUR: 'it returns false'. Refute it at one input. -/
def deltaMapsWrong : ChangeSpec := { name := "deltaMaps", fn := fun _ => fun
  | [d] => { results := [.lit (.bool false)], args := [d] }
  | _ => none }
def DeltaMapsWrongFalsely : Prop := deltaMapsRow.holds Try.pinned (OpenSpec.ofChange deltaMapsWrong)

/-- 'wainscotlaw09.DeltaDiffs': WHATEVER THE INPUT: true; the input reads as it did. -/
def deltaDiffsSpec : ChangeSpec := { name := "deltaDiffs", fn := fun _ => fun
  | [d1, d2, d3] => { results := [.lit (.bool true)], args := [d1, d2, d3] }
  | _ => none }
def deltaDiffsRow : OpenClaim := { program := "ytlcnkhphgekmeaa", sum := "6597d941e9efee7ba8b7cc0594bbb4cccbf71ed6fd82ed5af887168ad2eb6e30", func := "wainscot/wainscotlaw09.DeltaDiffs", spec := "deltaDiffs", inPlace := ["internal/bytealg.Compare", "maps.clone"], unfollowed := true, recurses := true, plainKeys := false, apart := false }
def DeltaDiffsSaid : Prop := deltaDiffsRow.holds Try.pinned (OpenSpec.ofChange deltaDiffsSpec)

/-- ITS FALSE NEIGHBOUR: 'it returns false'. Refute it at one input. -/
def deltaDiffsWrong : ChangeSpec := { name := "deltaDiffs", fn := fun _ => fun
  | [d1, d2, d3] => { results := [.lit (.bool false)], args := [d1, d2, d3] }
  | _ => none }
def DeltaDiffsWrongFalsely : Prop := deltaDiffsRow.holds Try.pinned (OpenSpec.ofChange deltaDiffsWrong)

/-- 'wainscotlaw09.DeltaMerges': WHATEVER THE INPUT: true; the input reads as it did. -/
def deltaMergesSpec : ChangeSpec := { name := "deltaMerges", fn := fun _ => fun
  | [d1, d2, d3] => { results := [.lit (.bool true)], args := [d1, d2, d3] }
  | _ => none }
def deltaMergesRow : OpenClaim := { program := "ytlcnkhphgekmeaa", sum := "6597d941e9efee7ba8b7cc0594bbb4cccbf71ed6fd82ed5af887168ad2eb6e30", func := "wainscot/wainscotlaw09.DeltaMerges", spec := "deltaMerges", inPlace := ["internal/bytealg.Compare", "maps.clone"], unfollowed := true, recurses := true, plainKeys := false, apart := false }
def DeltaMergesSaid : Prop := deltaMergesRow.holds Try.pinned (OpenSpec.ofChange deltaMergesSpec)

/-- ITS FALSE NEIGHBOUR: 'it returns false'. Refute it at one input. -/
def deltaMergesWrong : ChangeSpec := { name := "deltaMerges", fn := fun _ => fun
  | [d1, d2, d3] => { results := [.lit (.bool false)], args := [d1, d2, d3] }
  | _ => none }
def DeltaMergesWrongFalsely : Prop := deltaMergesRow.holds Try.pinned (OpenSpec.ofChange deltaMergesWrong)

/-- 'wainscotlaw09.DeltaTells': WHATEVER THE INPUT: true; the input reads as it did. -/
def deltaTellsSpec : ChangeSpec := { name := "deltaTells", fn := fun _ => fun
  | [d1, d2, d3, d4, d5] => { results := [.lit (.bool true)], args := [d1, d2, d3, d4, d5] }
  | _ => none }
def deltaTellsRow : OpenClaim := { program := "ytlcnkhphgekmeaa", sum := "6597d941e9efee7ba8b7cc0594bbb4cccbf71ed6fd82ed5af887168ad2eb6e30", func := "wainscot/wainscotlaw09.DeltaTells", spec := "deltaTells", inPlace := ["internal/bytealg.Compare", "maps.clone"], unfollowed := true, recurses := true, plainKeys := false, apart := false }
def DeltaTellsSaid : Prop := deltaTellsRow.holds Try.pinned (OpenSpec.ofChange deltaTellsSpec)

/-- ITS FALSE NEIGHBOUR: 'it returns false'. Refute it at one input. -/
def deltaTellsWrong : ChangeSpec := { name := "deltaTells", fn := fun _ => fun
  | [d1, d2, d3, d4, d5] => { results := [.lit (.bool false)], args := [d1, d2, d3, d4, d5] }
  | _ => none }
def DeltaTellsWrongFalsely : Prop := deltaTellsRow.holds Try.pinned (OpenSpec.ofChange deltaTellsWrong)

/-- 'wainscotlaw09.DeltaJoins': WHATEVER THE INPUT: true; the input reads as it did. -/
def deltaJoinsSpec : ChangeSpec := { name := "deltaJoins", fn := fun _ => fun
  | [d1, d2, d3] => { results := [.lit (.bool true)], args := [d1, d2, d3] }
  | _ => none }
def deltaJoinsRow : OpenClaim := { program := "ytlcnkhphgekmeaa", sum := "6597d941e9efee7ba8b7cc0594bbb4cccbf71ed6fd82ed5af887168ad2eb6e30", func := "wainscot/wainscotlaw09.DeltaJoins", spec := "deltaJoins", inPlace := ["internal/bytealg.Compare", "maps.clone"], unfollowed := true, recurses := true, plainKeys := false, apart := false }
def DeltaJoinsSaid : Prop := deltaJoinsRow.holds Try.pinned (OpenSpec.ofChange deltaJoinsSpec)

/-- ITS FALSE NEIGHBOUR: 'it returns false'. Refute it at one input. -/
def deltaJoinsWrong : ChangeSpec := { name := "deltaJoins", fn := fun _ => fun
  | [d1, d2, d3] => { results := [.lit (.bool false)], args := [d1, d2, d3] }
  | _ => none }
def DeltaJoinsWrongFalsely : Prop := deltaJoinsRow.holds Try.pinned (OpenSpec.ofChange deltaJoinsWrong)

/-- 'wainscotlaw09.DeltaApart': WHATEVER THE INPUT: true; the input reads as it did. -/
def deltaApartSpec : ChangeSpec := { name := "deltaApart", fn := fun _ => fun
  | [d1, d2, d3] => { results := [.lit (.bool true)], args := [d1, d2, d3] }
  | _ => none }
def deltaApartRow : OpenClaim := { program := "ytlcnkhphgekmeaa", sum := "6597d941e9efee7ba8b7cc0594bbb4cccbf71ed6fd82ed5af887168ad2eb6e30", func := "wainscot/wainscotlaw09.DeltaApart", spec := "deltaApart", inPlace := ["internal/bytealg.Compare", "maps.clone"], unfollowed := true, recurses := true, plainKeys := false, apart := false }
def DeltaApartSaid : Prop := deltaApartRow.holds Try.pinned (OpenSpec.ofChange deltaApartSpec)

/-- ITS FALSE NEIGHBOUR: 'it returns false'. Refute it at one input. -/
def deltaApartWrong : ChangeSpec := { name := "deltaApart", fn := fun _ => fun
  | [d1, d2, d3] => { results := [.lit (.bool false)], args := [d1, d2, d3] }
  | _ => none }
def DeltaApartWrongFalsely : Prop := deltaApartRow.holds Try.pinned (OpenSpec.ofChange deltaApartWrong)

/-- 'wainscotlaw09.DeltaTurns': WHATEVER THE INPUT: true; the input reads as it did. -/
def deltaTurnsSpec : ChangeSpec := { name := "deltaTurns", fn := fun _ => fun
  | [d1, d2, d3] => { results := [.lit (.bool true)], args := [d1, d2, d3] }
  | _ => none }
def deltaTurnsRow : OpenClaim := { program := "ytlcnkhphgekmeaa", sum := "6597d941e9efee7ba8b7cc0594bbb4cccbf71ed6fd82ed5af887168ad2eb6e30", func := "wainscot/wainscotlaw09.DeltaTurns", spec := "deltaTurns", inPlace := ["internal/bytealg.Compare", "maps.clone"], unfollowed := true, recurses := true, plainKeys := false, apart := false }
def DeltaTurnsSaid : Prop := deltaTurnsRow.holds Try.pinned (OpenSpec.ofChange deltaTurnsSpec)

/-- ITS FALSE NEIGHBOUR: 'it returns false'. Refute it at one input. -/
def deltaTurnsWrong : ChangeSpec := { name := "deltaTurns", fn := fun _ => fun
  | [d1, d2, d3] => { results := [.lit (.bool false)], args := [d1, d2, d3] }
  | _ => none }
def DeltaTurnsWrongFalsely : Prop := deltaTurnsRow.holds Try.pinned (OpenSpec.ofChange deltaTurnsWrong)

/- THE SECOND FORM. 'bulk': how many values and letters a reading holds, each counted each time it is reached (what is shared counts as often as it is met; a slice's spare places count too). A statement '..UptoSaid' is the law's where the arguments, and the package variables that the reading takes, are together of bulk at most 1048576: NARROWER than '..Said'. Prove '..Said' where nothing that the law and all that it calls make is longer than what came in: it says more and counts as full. Else prove '..UptoSaid'. A law counts once. -/
mutual
def uptoBulk {H : Type} : DataW H → Nat
  | .lit (.string bytes) => bytes.length + 1
  | .lit _ => 1
  | .nil => 1
  | .ptr d => uptoBulk d + 1
  | .slice elems spare => uptoBulkAll elems + uptoBulkAll spare + 1
  | .agg parts => uptoBulkAll parts + 1
  | .iface _ d => uptoBulk d + 1
  | .map entries => uptoBulkEntries entries + 1
  | .held _ => 1
def uptoBulkAll {H : Type} : List (DataW H) → Nat
  | [] => 0
  | d :: r => uptoBulk d + uptoBulkAll r
def uptoBulkEntries {H : Type} : List (Lit × DataW H) → Nat
  | [] => 0
  | x :: r => uptoBulkEntry x + uptoBulkEntries r
def uptoBulkEntry {H : Type} : Lit × DataW H → Nat
  | (.string bytes, d) => bytes.length + uptoBulk d + 1
  | (_, d) => uptoBulk d + 1
 end
def uptoSmall : (H : Type) → List (DataW H) → Bool := fun _ ds => decide (uptoBulkAll ds ≤ 1048576)
def OpenSpec.upto (s : _root_.Go.ChangeSpec) : _root_.Go.OpenSpec := { _root_.Go.OpenSpec.ofChange s with cond := some uptoSmall }

/-- 'wainscotlaw09.DeltaMaps', WHERE WHAT IT READS IS OF BULK AT MOST 1048576: true; the input reads as it did. -/
def deltaMapsUptoRow : OpenClaim := { program := "ytlcnkhphgekmeaa", sum := "6597d941e9efee7ba8b7cc0594bbb4cccbf71ed6fd82ed5af887168ad2eb6e30", func := "wainscot/wainscotlaw09.DeltaMaps", spec := "deltaMaps", inPlace := ["internal/bytealg.Compare", "maps.clone"], unfollowed := true, recurses := true, plainKeys := false, apart := false, narrowed := true }
def DeltaMapsUptoSaid : Prop := deltaMapsUptoRow.holds Try.pinned (OpenSpec.upto deltaMapsSpec)

/-- 'wainscotlaw09.DeltaDiffs', WHERE WHAT IT READS IS OF BULK AT MOST 1048576: true; the input reads as it did. -/
def deltaDiffsUptoRow : OpenClaim := { program := "ytlcnkhphgekmeaa", sum := "6597d941e9efee7ba8b7cc0594bbb4cccbf71ed6fd82ed5af887168ad2eb6e30", func := "wainscot/wainscotlaw09.DeltaDiffs", spec := "deltaDiffs", inPlace := ["internal/bytealg.Compare", "maps.clone"], unfollowed := true, recurses := true, plainKeys := false, apart := false, narrowed := true }
def DeltaDiffsUptoSaid : Prop := deltaDiffsUptoRow.holds Try.pinned (OpenSpec.upto deltaDiffsSpec)

/-- 'wainscotlaw09.DeltaMerges', WHERE WHAT IT READS IS OF BULK AT MOST 1048576: true; the input reads as it did. -/
def deltaMergesUptoRow : OpenClaim := { program := "ytlcnkhphgekmeaa", sum := "6597d941e9efee7ba8b7cc0594bbb4cccbf71ed6fd82ed5af887168ad2eb6e30", func := "wainscot/wainscotlaw09.DeltaMerges", spec := "deltaMerges", inPlace := ["internal/bytealg.Compare", "maps.clone"], unfollowed := true, recurses := true, plainKeys := false, apart := false, narrowed := true }
def DeltaMergesUptoSaid : Prop := deltaMergesUptoRow.holds Try.pinned (OpenSpec.upto deltaMergesSpec)

/-- 'wainscotlaw09.DeltaTells', WHERE WHAT IT READS IS OF BULK AT MOST 1048576: true; the input reads as it did. -/
def deltaTellsUptoRow : OpenClaim := { program := "ytlcnkhphgekmeaa", sum := "6597d941e9efee7ba8b7cc0594bbb4cccbf71ed6fd82ed5af887168ad2eb6e30", func := "wainscot/wainscotlaw09.DeltaTells", spec := "deltaTells", inPlace := ["internal/bytealg.Compare", "maps.clone"], unfollowed := true, recurses := true, plainKeys := false, apart := false, narrowed := true }
def DeltaTellsUptoSaid : Prop := deltaTellsUptoRow.holds Try.pinned (OpenSpec.upto deltaTellsSpec)

/-- 'wainscotlaw09.DeltaJoins', WHERE WHAT IT READS IS OF BULK AT MOST 1048576: true; the input reads as it did. -/
def deltaJoinsUptoRow : OpenClaim := { program := "ytlcnkhphgekmeaa", sum := "6597d941e9efee7ba8b7cc0594bbb4cccbf71ed6fd82ed5af887168ad2eb6e30", func := "wainscot/wainscotlaw09.DeltaJoins", spec := "deltaJoins", inPlace := ["internal/bytealg.Compare", "maps.clone"], unfollowed := true, recurses := true, plainKeys := false, apart := false, narrowed := true }
def DeltaJoinsUptoSaid : Prop := deltaJoinsUptoRow.holds Try.pinned (OpenSpec.upto deltaJoinsSpec)

/-- 'wainscotlaw09.DeltaApart', WHERE WHAT IT READS IS OF BULK AT MOST 1048576: true; the input reads as it did. -/
def deltaApartUptoRow : OpenClaim := { program := "ytlcnkhphgekmeaa", sum := "6597d941e9efee7ba8b7cc0594bbb4cccbf71ed6fd82ed5af887168ad2eb6e30", func := "wainscot/wainscotlaw09.DeltaApart", spec := "deltaApart", inPlace := ["internal/bytealg.Compare", "maps.clone"], unfollowed := true, recurses := true, plainKeys := false, apart := false, narrowed := true }
def DeltaApartUptoSaid : Prop := deltaApartUptoRow.holds Try.pinned (OpenSpec.upto deltaApartSpec)

/-- 'wainscotlaw09.DeltaTurns', WHERE WHAT IT READS IS OF BULK AT MOST 1048576: true; the input reads as it did. -/
def deltaTurnsUptoRow : OpenClaim := { program := "ytlcnkhphgekmeaa", sum := "6597d941e9efee7ba8b7cc0594bbb4cccbf71ed6fd82ed5af887168ad2eb6e30", func := "wainscot/wainscotlaw09.DeltaTurns", spec := "deltaTurns", inPlace := ["internal/bytealg.Compare", "maps.clone"], unfollowed := true, recurses := true, plainKeys := false, apart := false, narrowed := true }
def DeltaTurnsUptoSaid : Prop := deltaTurnsUptoRow.holds Try.pinned (OpenSpec.upto deltaTurnsSpec)

end Rows
end Go.Proofs.Ytlcnkhphgekmeaa
