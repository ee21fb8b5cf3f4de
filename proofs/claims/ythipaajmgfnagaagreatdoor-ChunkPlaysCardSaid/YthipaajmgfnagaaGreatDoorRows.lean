/-
  NARROWER THAN 'FOR EVERY INPUT', by the rows' own cells (each row's printed sentence says how): ChunkBytes: laid · ChunkApart: laid · ChunkBad: laid · ChunkPieces: laid · ChunkSparse: laid · ChunkPlays: laid · ChunkReads: laid.
  DERIVED. THE GIVEN ROWS OF THIS SEAT. 7 by the template 'for every input the law returns true; each argument reads behind the call as it read before'; 0 by the template 'total and deterministic' (their statements: YthipaajmgfnagaaGreatDoorTotals.lean).
  GIVEN WITH THE SEED: the statements are not yours to turn. If you find one false, say at which input.
  Laid BY PROGRAM, IN A SANDBOX (cutbox-rows.mjs): the forced cells as the released guide's own fill.sh prints them over the translation c2e26a9fb5302743… (all of the seat's roots in one cut). By AI agents, Wed Nov 11 2026. No macro, syntax, notation, axiom, sorry.
-/
import Derived.Test.YthipaajmgfnagaaGreatDoorChecked
import GoSem.PinnedTables
import GoSem.Claim
import GoSem.ClaimJoined
import GoSem.ClaimMapViews
import Derived.JoinedTies
import Derived.KernelRfl
namespace Go.Proofs.YthipaajmgfnagaaGreatDoor
/- THE CELL 'sum', in the pinned program and in every row, IS THE sha256 OF THE DUMP (.gsa) THAT YthipaajmgfnagaaGreatDoorProg.lean LOADS. Nothing in Lean hashes anything: it is a label: what it is worth is what the hold of that sum in a sandbox is worth. -/
noncomputable def Tryz.pinned : Pinned := { name := "ythipaajmgfnagaagreatdoor", sum := "c2e26a9fb530274340ec6758116541d244d4af9bf4e90bbc627c89caa3b74cf2", checked := Tryz.checked }
namespace Rows
def none {H : Type} : Left H := { results := [], args := [] }

/- WHAT THE LISTED PACKAGE-LEVEL VARIABLES READ AS WHEN THE CALL BEGINS. Each datum BY PROGRAM (the guide's laid-datum.mjs) off the statement by which the dump's own 'gosem.cut.vars' lays the variable. In a bare row this is a premise. The card (YthipaajmgfnagaaGreatDoorCards.lean) ties it to the program's text. -/
def laid_unicode_utf8_acceptRanges {H : Type} : DataW H := .agg [.agg [.lit (.int .u8 128), .lit (.int .u8 191)], .agg [.lit (.int .u8 160), .lit (.int .u8 191)], .agg [.lit (.int .u8 128), .lit (.int .u8 159)], .agg [.lit (.int .u8 144), .lit (.int .u8 191)], .agg [.lit (.int .u8 128), .lit (.int .u8 143)], .agg [.lit (.int .u8 0), .lit (.int .u8 0)], .agg [.lit (.int .u8 0), .lit (.int .u8 0)], .agg [.lit (.int .u8 0), .lit (.int .u8 0)], .agg [.lit (.int .u8 0), .lit (.int .u8 0)], .agg [.lit (.int .u8 0), .lit (.int .u8 0)], .agg [.lit (.int .u8 0), .lit (.int .u8 0)], .agg [.lit (.int .u8 0), .lit (.int .u8 0)], .agg [.lit (.int .u8 0), .lit (.int .u8 0)], .agg [.lit (.int .u8 0), .lit (.int .u8 0)], .agg [.lit (.int .u8 0), .lit (.int .u8 0)], .agg [.lit (.int .u8 0), .lit (.int .u8 0)]]
/-- One of Go's own tables, pinned by name: the form's constant. -/
def laid_unicode_utf8_first : DataW Unit := Go.Pinned.utf8First

/-- 'wainscotlaw13.ChunkBytes': WHATEVER THE INPUT: true; the input reads as it did. -/
def chunkBytesSpec : ChangeSpec := { name := "chunkBytes", fn := fun _ => fun
  | [d1, d2, d3] => { results := [.lit (.bool true)], args := [d1, d2, d3] }
  | _ => none }
def chunkBytesRow : OpenClaim := { program := "ythipaajmgfnagaagreatdoor", sum := "c2e26a9fb530274340ec6758116541d244d4af9bf4e90bbc627c89caa3b74cf2", func := "wainscot/wainscotlaw13.ChunkBytes", spec := "chunkBytes", inPlace := ["internal/bytealg.Compare", "internal/abi.NoEscape", "internal/bytealg.MakeNoZero", "internal/bytealg.IndexByteString", "internal/bytealg.IndexString"], unfollowed := true, recurses := true, named := ["unicode/utf8.first", "unicode/utf8.acceptRanges", "internal/bytealg.MaxLen"], plainKeys := false, apart := false, laid := [("unicode/utf8.acceptRanges", laid_unicode_utf8_acceptRanges), ("unicode/utf8.first", laid_unicode_utf8_first)] }
def ChunkBytesSaid : Prop := chunkBytesRow.holds Tryz.pinned (OpenSpec.ofChange chunkBytesSpec)

/-- ITS FALSE NEIGHBOUR: 'it returns false'. Refute it at one input. -/
def chunkBytesWrong : ChangeSpec := { name := "chunkBytes", fn := fun _ => fun
  | [d1, d2, d3] => { results := [.lit (.bool false)], args := [d1, d2, d3] }
  | _ => none }
def ChunkBytesWrongFalsely : Prop := chunkBytesRow.holds Tryz.pinned (OpenSpec.ofChange chunkBytesWrong)

/-- 'wainscotlaw13.ChunkApart': WHATEVER THE INPUT: true; the input reads as it did. -/
def chunkApartSpec : ChangeSpec := { name := "chunkApart", fn := fun _ => fun
  | [d1, d2] => { results := [.lit (.bool true)], args := [d1, d2] }
  | _ => none }
def chunkApartRow : OpenClaim := { program := "ythipaajmgfnagaagreatdoor", sum := "c2e26a9fb530274340ec6758116541d244d4af9bf4e90bbc627c89caa3b74cf2", func := "wainscot/wainscotlaw13.ChunkApart", spec := "chunkApart", inPlace := ["internal/bytealg.Compare", "internal/abi.NoEscape", "internal/bytealg.MakeNoZero", "internal/bytealg.IndexByteString", "internal/bytealg.IndexString"], unfollowed := true, recurses := true, named := ["unicode/utf8.first", "unicode/utf8.acceptRanges", "internal/bytealg.MaxLen"], plainKeys := false, apart := false, laid := [("unicode/utf8.acceptRanges", laid_unicode_utf8_acceptRanges), ("unicode/utf8.first", laid_unicode_utf8_first)] }
def ChunkApartSaid : Prop := chunkApartRow.holds Tryz.pinned (OpenSpec.ofChange chunkApartSpec)

/-- ITS FALSE NEIGHBOUR: 'it returns false'. Refute it at one input. -/
def chunkApartWrong : ChangeSpec := { name := "chunkApart", fn := fun _ => fun
  | [d1, d2] => { results := [.lit (.bool false)], args := [d1, d2] }
  | _ => none }
def ChunkApartWrongFalsely : Prop := chunkApartRow.holds Tryz.pinned (OpenSpec.ofChange chunkApartWrong)

/-- 'wainscotlaw13.ChunkBad': WHATEVER THE INPUT: true; the input reads as it did. -/
def chunkBadSpec : ChangeSpec := { name := "chunkBad", fn := fun _ => fun
  | [d1, d2, d3, d4] => { results := [.lit (.bool true)], args := [d1, d2, d3, d4] }
  | _ => none }
def chunkBadRow : OpenClaim := { program := "ythipaajmgfnagaagreatdoor", sum := "c2e26a9fb530274340ec6758116541d244d4af9bf4e90bbc627c89caa3b74cf2", func := "wainscot/wainscotlaw13.ChunkBad", spec := "chunkBad", inPlace := ["internal/bytealg.Compare", "internal/abi.NoEscape", "internal/bytealg.MakeNoZero", "internal/bytealg.IndexByteString", "internal/bytealg.IndexString"], unfollowed := true, recurses := true, named := ["unicode/utf8.first", "unicode/utf8.acceptRanges", "internal/bytealg.MaxLen"], plainKeys := false, apart := false, laid := [("unicode/utf8.acceptRanges", laid_unicode_utf8_acceptRanges), ("unicode/utf8.first", laid_unicode_utf8_first)] }
def ChunkBadSaid : Prop := chunkBadRow.holds Tryz.pinned (OpenSpec.ofChange chunkBadSpec)

/-- ITS FALSE NEIGHBOUR: 'it returns false'. Refute it at one input. -/
def chunkBadWrong : ChangeSpec := { name := "chunkBad", fn := fun _ => fun
  | [d1, d2, d3, d4] => { results := [.lit (.bool false)], args := [d1, d2, d3, d4] }
  | _ => none }
def ChunkBadWrongFalsely : Prop := chunkBadRow.holds Tryz.pinned (OpenSpec.ofChange chunkBadWrong)

/-- 'wainscotlaw13.ChunkPieces': WHATEVER THE INPUT: true; the input reads as it did. -/
def chunkPiecesSpec : ChangeSpec := { name := "chunkPieces", fn := fun _ => fun
  | [d1, d2, d3] => { results := [.lit (.bool true)], args := [d1, d2, d3] }
  | _ => none }
def chunkPiecesRow : OpenClaim := { program := "ythipaajmgfnagaagreatdoor", sum := "c2e26a9fb530274340ec6758116541d244d4af9bf4e90bbc627c89caa3b74cf2", func := "wainscot/wainscotlaw13.ChunkPieces", spec := "chunkPieces", inPlace := ["internal/bytealg.Compare", "internal/abi.NoEscape", "internal/bytealg.MakeNoZero", "internal/bytealg.IndexByteString", "internal/bytealg.IndexString"], unfollowed := true, recurses := true, named := ["unicode/utf8.first", "unicode/utf8.acceptRanges", "internal/bytealg.MaxLen"], plainKeys := false, apart := false, laid := [("unicode/utf8.acceptRanges", laid_unicode_utf8_acceptRanges), ("unicode/utf8.first", laid_unicode_utf8_first)] }
def ChunkPiecesSaid : Prop := chunkPiecesRow.holds Tryz.pinned (OpenSpec.ofChange chunkPiecesSpec)

/-- ITS FALSE NEIGHBOUR: 'it returns false'. Refute it at one input. -/
def chunkPiecesWrong : ChangeSpec := { name := "chunkPieces", fn := fun _ => fun
  | [d1, d2, d3] => { results := [.lit (.bool false)], args := [d1, d2, d3] }
  | _ => none }
def ChunkPiecesWrongFalsely : Prop := chunkPiecesRow.holds Tryz.pinned (OpenSpec.ofChange chunkPiecesWrong)

/-- 'wainscotlaw13.ChunkSparse': WHATEVER THE INPUT: true; the input reads as it did. -/
def chunkSparseSpec : ChangeSpec := { name := "chunkSparse", fn := fun _ => fun
  | [d1, d2, d3] => { results := [.lit (.bool true)], args := [d1, d2, d3] }
  | _ => none }
def chunkSparseRow : OpenClaim := { program := "ythipaajmgfnagaagreatdoor", sum := "c2e26a9fb530274340ec6758116541d244d4af9bf4e90bbc627c89caa3b74cf2", func := "wainscot/wainscotlaw13.ChunkSparse", spec := "chunkSparse", inPlace := ["internal/bytealg.Compare", "internal/abi.NoEscape", "internal/bytealg.MakeNoZero", "internal/bytealg.IndexByteString", "internal/bytealg.IndexString"], unfollowed := true, recurses := true, named := ["unicode/utf8.first", "unicode/utf8.acceptRanges", "internal/bytealg.MaxLen"], plainKeys := false, apart := false, laid := [("unicode/utf8.acceptRanges", laid_unicode_utf8_acceptRanges), ("unicode/utf8.first", laid_unicode_utf8_first)] }
def ChunkSparseSaid : Prop := chunkSparseRow.holds Tryz.pinned (OpenSpec.ofChange chunkSparseSpec)

/-- ITS FALSE NEIGHBOUR: 'it returns false'. Refute it at one input. -/
def chunkSparseWrong : ChangeSpec := { name := "chunkSparse", fn := fun _ => fun
  | [d1, d2, d3] => { results := [.lit (.bool false)], args := [d1, d2, d3] }
  | _ => none }
def ChunkSparseWrongFalsely : Prop := chunkSparseRow.holds Tryz.pinned (OpenSpec.ofChange chunkSparseWrong)

/-- 'wainscotlaw13.ChunkPlays': WHATEVER THE INPUT: true; the input reads as it did. -/
def chunkPlaysSpec : ChangeSpec := { name := "chunkPlays", fn := fun _ => fun
  | [d] => { results := [.lit (.bool true)], args := [d] }
  | _ => none }
def chunkPlaysRow : OpenClaim := { program := "ythipaajmgfnagaagreatdoor", sum := "c2e26a9fb530274340ec6758116541d244d4af9bf4e90bbc627c89caa3b74cf2", func := "wainscot/wainscotlaw13.ChunkPlays", spec := "chunkPlays", inPlace := ["internal/bytealg.Compare", "internal/abi.NoEscape", "internal/bytealg.MakeNoZero", "internal/bytealg.IndexByteString", "internal/bytealg.IndexString"], unfollowed := true, recurses := true, named := ["unicode/utf8.first", "unicode/utf8.acceptRanges", "internal/bytealg.MaxLen"], plainKeys := false, apart := false, laid := [("unicode/utf8.acceptRanges", laid_unicode_utf8_acceptRanges), ("unicode/utf8.first", laid_unicode_utf8_first)] }
def ChunkPlaysSaid : Prop := chunkPlaysRow.holds Tryz.pinned (OpenSpec.ofChange chunkPlaysSpec)

/-- ITS FALSE NEIGHBOUR: 'it returns false'. Refute it at one input. -/
def chunkPlaysWrong : ChangeSpec := { name := "chunkPlays", fn := fun _ => fun
  | [d] => { results := [.lit (.bool false)], args := [d] }
  | _ => none }
def ChunkPlaysWrongFalsely : Prop := chunkPlaysRow.holds Tryz.pinned (OpenSpec.ofChange chunkPlaysWrong)

/-- 'wainscotlaw13.ChunkReads': WHATEVER THE INPUT: true; the input reads as it did. -/
def chunkReadsSpec : ChangeSpec := { name := "chunkReads", fn := fun _ => fun
  | [d1, d2, d3, d4] => { results := [.lit (.bool true)], args := [d1, d2, d3, d4] }
  | _ => none }
def chunkReadsRow : OpenClaim := { program := "ythipaajmgfnagaagreatdoor", sum := "c2e26a9fb530274340ec6758116541d244d4af9bf4e90bbc627c89caa3b74cf2", func := "wainscot/wainscotlaw13.ChunkReads", spec := "chunkReads", inPlace := ["internal/bytealg.Compare", "internal/abi.NoEscape", "internal/bytealg.MakeNoZero", "internal/bytealg.IndexByteString", "internal/bytealg.IndexString"], unfollowed := true, recurses := true, named := ["unicode/utf8.first", "unicode/utf8.acceptRanges", "internal/bytealg.MaxLen"], plainKeys := false, apart := false, laid := [("unicode/utf8.acceptRanges", laid_unicode_utf8_acceptRanges), ("unicode/utf8.first", laid_unicode_utf8_first)] }
def ChunkReadsSaid : Prop := chunkReadsRow.holds Tryz.pinned (OpenSpec.ofChange chunkReadsSpec)

/-- ITS FALSE NEIGHBOUR: 'it returns false'. Refute it at one input. -/
def chunkReadsWrong : ChangeSpec := { name := "chunkReads", fn := fun _ => fun
  | [d1, d2, d3, d4] => { results := [.lit (.bool false)], args := [d1, d2, d3, d4] }
  | _ => none }
def ChunkReadsWrongFalsely : Prop := chunkReadsRow.holds Tryz.pinned (OpenSpec.ofChange chunkReadsWrong)

/- THE SECOND FORM. 'bulk': how many values and letters a reading holds, each counted each time it is reached (what is shared counts as often as it is met; a slice's spare places count too). A statement '..UptoSaid' is the law's where the arguments, and the package variables that the reading takes, are together of bulk at most 1048576: NARROWER than '..Said'. Prove '..Said' where nothing that the law and all that it calls make is longer than what came in: it says more and counts as full. Else prove '..UptoSaid'. A law counts once. -/
mutual
def uptoBulk {H : Type} : DataW H → Nat
  | .lit (.string bytes) => bytes.length + 1
  | .lit _ => 1
  | .nil => 1
  | .ptr d => uptoBulk d + 1
  | .slice elems spare => uptoBulkAll elems + uptoBulkAll spare + 1
  | .agg parts => uptoBulkAll parts + 1
  | .iface _ d => uptoBulk d + 1
  | .map entries => uptoBulkEntries entries + 1
  | .held _ => 1
def uptoBulkAll {H : Type} : List (DataW H) → Nat
  | [] => 0
  | d :: r => uptoBulk d + uptoBulkAll r
def uptoBulkEntries {H : Type} : List (Lit × DataW H) → Nat
  | [] => 0
  | x :: r => uptoBulkEntry x + uptoBulkEntries r
def uptoBulkEntry {H : Type} : Lit × DataW H → Nat
  | (.string bytes, d) => bytes.length + uptoBulk d + 1
  | (_, d) => uptoBulk d + 1
 end
def uptoSmall : (H : Type) → List (DataW H) → Bool := fun _ ds => decide (uptoBulkAll ds ≤ 1048576)
def OpenSpec.upto (s : _root_.Go.ChangeSpec) : _root_.Go.OpenSpec := { _root_.Go.OpenSpec.ofChange s with cond := some uptoSmall }

/-- 'wainscotlaw13.ChunkBytes', WHERE WHAT IT READS IS OF BULK AT MOST 1048576: true; the input reads as it did. -/
def chunkBytesUptoRow : OpenClaim := { program := "ythipaajmgfnagaagreatdoor", sum := "c2e26a9fb530274340ec6758116541d244d4af9bf4e90bbc627c89caa3b74cf2", func := "wainscot/wainscotlaw13.ChunkBytes", spec := "chunkBytes", inPlace := ["internal/bytealg.Compare", "internal/abi.NoEscape", "internal/bytealg.MakeNoZero", "internal/bytealg.IndexByteString", "internal/bytealg.IndexString"], unfollowed := true, recurses := true, named := ["unicode/utf8.first", "unicode/utf8.acceptRanges", "internal/bytealg.MaxLen"], plainKeys := false, apart := false, laid := [("unicode/utf8.acceptRanges", laid_unicode_utf8_acceptRanges), ("unicode/utf8.first", laid_unicode_utf8_first)], narrowed := true }
def ChunkBytesUptoSaid : Prop := chunkBytesUptoRow.holds Tryz.pinned (OpenSpec.upto chunkBytesSpec)

/-- 'wainscotlaw13.ChunkApart', WHERE WHAT IT READS IS OF BULK AT MOST 1048576: true; the input reads as it did. -/
def chunkApartUptoRow : OpenClaim := { program := "ythipaajmgfnagaagreatdoor", sum := "c2e26a9fb530274340ec6758116541d244d4af9bf4e90bbc627c89caa3b74cf2", func := "wainscot/wainscotlaw13.ChunkApart", spec := "chunkApart", inPlace := ["internal/bytealg.Compare", "internal/abi.NoEscape", "internal/bytealg.MakeNoZero", "internal/bytealg.IndexByteString", "internal/bytealg.IndexString"], unfollowed := true, recurses := true, named := ["unicode/utf8.first", "unicode/utf8.acceptRanges", "internal/bytealg.MaxLen"], plainKeys := false, apart := false, laid := [("unicode/utf8.acceptRanges", laid_unicode_utf8_acceptRanges), ("unicode/utf8.first", laid_unicode_utf8_first)], narrowed := true }
def ChunkApartUptoSaid : Prop := chunkApartUptoRow.holds Tryz.pinned (OpenSpec.upto chunkApartSpec)

/-- 'wainscotlaw13.ChunkBad', WHERE WHAT IT READS IS OF BULK AT MOST 1048576: true; the input reads as it did. -/
def chunkBadUptoRow : OpenClaim := { program := "ythipaajmgfnagaagreatdoor", sum := "c2e26a9fb530274340ec6758116541d244d4af9bf4e90bbc627c89caa3b74cf2", func := "wainscot/wainscotlaw13.ChunkBad", spec := "chunkBad", inPlace := ["internal/bytealg.Compare", "internal/abi.NoEscape", "internal/bytealg.MakeNoZero", "internal/bytealg.IndexByteString", "internal/bytealg.IndexString"], unfollowed := true, recurses := true, named := ["unicode/utf8.first", "unicode/utf8.acceptRanges", "internal/bytealg.MaxLen"], plainKeys := false, apart := false, laid := [("unicode/utf8.acceptRanges", laid_unicode_utf8_acceptRanges), ("unicode/utf8.first", laid_unicode_utf8_first)], narrowed := true }
def ChunkBadUptoSaid : Prop := chunkBadUptoRow.holds Tryz.pinned (OpenSpec.upto chunkBadSpec)

/-- 'wainscotlaw13.ChunkPieces', WHERE WHAT IT READS IS OF BULK AT MOST 1048576: true; the input reads as it did. -/
def chunkPiecesUptoRow : OpenClaim := { program := "ythipaajmgfnagaagreatdoor", sum := "c2e26a9fb530274340ec6758116541d244d4af9bf4e90bbc627c89caa3b74cf2", func := "wainscot/wainscotlaw13.ChunkPieces", spec := "chunkPieces", inPlace := ["internal/bytealg.Compare", "internal/abi.NoEscape", "internal/bytealg.MakeNoZero", "internal/bytealg.IndexByteString", "internal/bytealg.IndexString"], unfollowed := true, recurses := true, named := ["unicode/utf8.first", "unicode/utf8.acceptRanges", "internal/bytealg.MaxLen"], plainKeys := false, apart := false, laid := [("unicode/utf8.acceptRanges", laid_unicode_utf8_acceptRanges), ("unicode/utf8.first", laid_unicode_utf8_first)], narrowed := true }
def ChunkPiecesUptoSaid : Prop := chunkPiecesUptoRow.holds Tryz.pinned (OpenSpec.upto chunkPiecesSpec)

/-- 'wainscotlaw13.ChunkSparse', WHERE WHAT IT READS IS OF BULK AT MOST 1048576: true; the input reads as it did. -/
def chunkSparseUptoRow : OpenClaim := { program := "ythipaajmgfnagaagreatdoor", sum := "c2e26a9fb530274340ec6758116541d244d4af9bf4e90bbc627c89caa3b74cf2", func := "wainscot/wainscotlaw13.ChunkSparse", spec := "chunkSparse", inPlace := ["internal/bytealg.Compare", "internal/abi.NoEscape", "internal/bytealg.MakeNoZero", "internal/bytealg.IndexByteString", "internal/bytealg.IndexString"], unfollowed := true, recurses := true, named := ["unicode/utf8.first", "unicode/utf8.acceptRanges", "internal/bytealg.MaxLen"], plainKeys := false, apart := false, laid := [("unicode/utf8.acceptRanges", laid_unicode_utf8_acceptRanges), ("unicode/utf8.first", laid_unicode_utf8_first)], narrowed := true }
def ChunkSparseUptoSaid : Prop := chunkSparseUptoRow.holds Tryz.pinned (OpenSpec.upto chunkSparseSpec)

/-- 'wainscotlaw13.ChunkPlays', WHERE WHAT IT READS IS OF BULK AT MOST 1048576: true; the input reads as it did. -/
def chunkPlaysUptoRow : OpenClaim := { program := "ythipaajmgfnagaagreatdoor", sum := "c2e26a9fb530274340ec6758116541d244d4af9bf4e90bbc627c89caa3b74cf2", func := "wainscot/wainscotlaw13.ChunkPlays", spec := "chunkPlays", inPlace := ["internal/bytealg.Compare", "internal/abi.NoEscape", "internal/bytealg.MakeNoZero", "internal/bytealg.IndexByteString", "internal/bytealg.IndexString"], unfollowed := true, recurses := true, named := ["unicode/utf8.first", "unicode/utf8.acceptRanges", "internal/bytealg.MaxLen"], plainKeys := false, apart := false, laid := [("unicode/utf8.acceptRanges", laid_unicode_utf8_acceptRanges), ("unicode/utf8.first", laid_unicode_utf8_first)], narrowed := true }
def ChunkPlaysUptoSaid : Prop := chunkPlaysUptoRow.holds Tryz.pinned (OpenSpec.upto chunkPlaysSpec)

/-- 'wainscotlaw13.ChunkReads', WHERE WHAT IT READS IS OF BULK AT MOST 1048576: true; the input reads as it did. -/
def chunkReadsUptoRow : OpenClaim := { program := "ythipaajmgfnagaagreatdoor", sum := "c2e26a9fb530274340ec6758116541d244d4af9bf4e90bbc627c89caa3b74cf2", func := "wainscot/wainscotlaw13.ChunkReads", spec := "chunkReads", inPlace := ["internal/bytealg.Compare", "internal/abi.NoEscape", "internal/bytealg.MakeNoZero", "internal/bytealg.IndexByteString", "internal/bytealg.IndexString"], unfollowed := true, recurses := true, named := ["unicode/utf8.first", "unicode/utf8.acceptRanges", "internal/bytealg.MaxLen"], plainKeys := false, apart := false, laid := [("unicode/utf8.acceptRanges", laid_unicode_utf8_acceptRanges), ("unicode/utf8.first", laid_unicode_utf8_first)], narrowed := true }
def ChunkReadsUptoSaid : Prop := chunkReadsUptoRow.holds Tryz.pinned (OpenSpec.upto chunkReadsSpec)

end Rows
end Go.Proofs.YthipaajmgfnagaaGreatDoor
