/-
  DERIVED. GIVEN WITH THE SEED: THE CARDS: each row of YthipaajmgfnagaaGreatDoorRows.lean that lists a variable, with what it lists TIED to the program's text (the seventh form; the later family's looks); each row that meets fmt, with fmt's text TOLD by the authors' own Lean function (tested against real Go, not proved from fmt's source: count such statements apart). THE CARD IS WHAT COUNTS. Prove the row's statement (the work); the ties are given (YthipaajmgfnagaaGreatDoorTie.lean); close each card by the builder's one call (the guide's Derived/Test/ToyasCard.lean, 'card_holds'). Laid BY PROGRAM, IN A SANDBOX (cutbox-door.mjs). By AI agents, Wed Nov 11 2026. No macro, syntax, notation, axiom, sorry.
-/
import Derived.Test.YthipaajmgfnagaaGreatDoorRows
import GoSem.ClaimSeven
namespace Go.Proofs.YthipaajmgfnagaaGreatDoor
namespace Rows

/-- THE TIED CARD OF 'wainscotlaw13.ChunkBytes'. -/
def chunkBytesCard : Claim7 := { stood := { row := chunkBytesRow, standIns := [], harness := (true, "14a7773e844401c40b6c81e7f529dccd12cecd4900e38e3557b6a5d4d5546402"), looks := false }, kinds := [], alts := [], laidByText := true, laidKinds := [.data, .pinned], laidTests := true, laidLooks := .later }
def ChunkBytesCardSaid : Prop := Claim7.holds Tryz.pinned (.plain (OpenSpec.ofChange chunkBytesSpec)) chunkBytesCard

/-- THE TIED CARD OF 'wainscotlaw13.ChunkApart'. -/
def chunkApartCard : Claim7 := { stood := { row := chunkApartRow, standIns := [], harness := (true, "14a7773e844401c40b6c81e7f529dccd12cecd4900e38e3557b6a5d4d5546402"), looks := false }, kinds := [], alts := [], laidByText := true, laidKinds := [.data, .pinned], laidTests := true, laidLooks := .later }
def ChunkApartCardSaid : Prop := Claim7.holds Tryz.pinned (.plain (OpenSpec.ofChange chunkApartSpec)) chunkApartCard

/-- THE TIED CARD OF 'wainscotlaw13.ChunkBad'. -/
def chunkBadCard : Claim7 := { stood := { row := chunkBadRow, standIns := [], harness := (true, "14a7773e844401c40b6c81e7f529dccd12cecd4900e38e3557b6a5d4d5546402"), looks := false }, kinds := [], alts := [], laidByText := true, laidKinds := [.data, .pinned], laidTests := true, laidLooks := .later }
def ChunkBadCardSaid : Prop := Claim7.holds Tryz.pinned (.plain (OpenSpec.ofChange chunkBadSpec)) chunkBadCard

/-- THE TIED CARD OF 'wainscotlaw13.ChunkPieces'. -/
def chunkPiecesCard : Claim7 := { stood := { row := chunkPiecesRow, standIns := [], harness := (true, "14a7773e844401c40b6c81e7f529dccd12cecd4900e38e3557b6a5d4d5546402"), looks := false }, kinds := [], alts := [], laidByText := true, laidKinds := [.data, .pinned], laidTests := true, laidLooks := .later }
def ChunkPiecesCardSaid : Prop := Claim7.holds Tryz.pinned (.plain (OpenSpec.ofChange chunkPiecesSpec)) chunkPiecesCard

/-- THE TIED CARD OF 'wainscotlaw13.ChunkSparse'. -/
def chunkSparseCard : Claim7 := { stood := { row := chunkSparseRow, standIns := [], harness := (true, "14a7773e844401c40b6c81e7f529dccd12cecd4900e38e3557b6a5d4d5546402"), looks := false }, kinds := [], alts := [], laidByText := true, laidKinds := [.data, .pinned], laidTests := true, laidLooks := .later }
def ChunkSparseCardSaid : Prop := Claim7.holds Tryz.pinned (.plain (OpenSpec.ofChange chunkSparseSpec)) chunkSparseCard

/-- THE TIED CARD OF 'wainscotlaw13.ChunkPlays'. -/
def chunkPlaysCard : Claim7 := { stood := { row := chunkPlaysRow, standIns := [], harness := (true, "14a7773e844401c40b6c81e7f529dccd12cecd4900e38e3557b6a5d4d5546402"), looks := false }, kinds := [], alts := [], laidByText := true, laidKinds := [.data, .pinned], laidTests := true, laidLooks := .later }
def ChunkPlaysCardSaid : Prop := Claim7.holds Tryz.pinned (.plain (OpenSpec.ofChange chunkPlaysSpec)) chunkPlaysCard

/-- THE TIED CARD OF 'wainscotlaw13.ChunkReads'. -/
def chunkReadsCard : Claim7 := { stood := { row := chunkReadsRow, standIns := [], harness := (true, "14a7773e844401c40b6c81e7f529dccd12cecd4900e38e3557b6a5d4d5546402"), looks := false }, kinds := [], alts := [], laidByText := true, laidKinds := [.data, .pinned], laidTests := true, laidLooks := .later }
def ChunkReadsCardSaid : Prop := Claim7.holds Tryz.pinned (.plain (OpenSpec.ofChange chunkReadsSpec)) chunkReadsCard

/-- THE SECOND FORM's CARD OF 'wainscotlaw13.ChunkBytes'. -/
def chunkBytesUptoCard : Claim7 := { stood := { row := chunkBytesUptoRow, standIns := [], harness := (true, "14a7773e844401c40b6c81e7f529dccd12cecd4900e38e3557b6a5d4d5546402"), looks := false }, kinds := [], alts := [], laidByText := true, laidKinds := [.data, .pinned], laidTests := true, laidLooks := .later }
def ChunkBytesUptoCardSaid : Prop := Claim7.holds Tryz.pinned (.plain (OpenSpec.upto chunkBytesSpec)) chunkBytesUptoCard

/-- THE SECOND FORM's CARD OF 'wainscotlaw13.ChunkApart'. -/
def chunkApartUptoCard : Claim7 := { stood := { row := chunkApartUptoRow, standIns := [], harness := (true, "14a7773e844401c40b6c81e7f529dccd12cecd4900e38e3557b6a5d4d5546402"), looks := false }, kinds := [], alts := [], laidByText := true, laidKinds := [.data, .pinned], laidTests := true, laidLooks := .later }
def ChunkApartUptoCardSaid : Prop := Claim7.holds Tryz.pinned (.plain (OpenSpec.upto chunkApartSpec)) chunkApartUptoCard

/-- THE SECOND FORM's CARD OF 'wainscotlaw13.ChunkBad'. -/
def chunkBadUptoCard : Claim7 := { stood := { row := chunkBadUptoRow, standIns := [], harness := (true, "14a7773e844401c40b6c81e7f529dccd12cecd4900e38e3557b6a5d4d5546402"), looks := false }, kinds := [], alts := [], laidByText := true, laidKinds := [.data, .pinned], laidTests := true, laidLooks := .later }
def ChunkBadUptoCardSaid : Prop := Claim7.holds Tryz.pinned (.plain (OpenSpec.upto chunkBadSpec)) chunkBadUptoCard

/-- THE SECOND FORM's CARD OF 'wainscotlaw13.ChunkPieces'. -/
def chunkPiecesUptoCard : Claim7 := { stood := { row := chunkPiecesUptoRow, standIns := [], harness := (true, "14a7773e844401c40b6c81e7f529dccd12cecd4900e38e3557b6a5d4d5546402"), looks := false }, kinds := [], alts := [], laidByText := true, laidKinds := [.data, .pinned], laidTests := true, laidLooks := .later }
def ChunkPiecesUptoCardSaid : Prop := Claim7.holds Tryz.pinned (.plain (OpenSpec.upto chunkPiecesSpec)) chunkPiecesUptoCard

/-- THE SECOND FORM's CARD OF 'wainscotlaw13.ChunkSparse'. -/
def chunkSparseUptoCard : Claim7 := { stood := { row := chunkSparseUptoRow, standIns := [], harness := (true, "14a7773e844401c40b6c81e7f529dccd12cecd4900e38e3557b6a5d4d5546402"), looks := false }, kinds := [], alts := [], laidByText := true, laidKinds := [.data, .pinned], laidTests := true, laidLooks := .later }
def ChunkSparseUptoCardSaid : Prop := Claim7.holds Tryz.pinned (.plain (OpenSpec.upto chunkSparseSpec)) chunkSparseUptoCard

/-- THE SECOND FORM's CARD OF 'wainscotlaw13.ChunkPlays'. -/
def chunkPlaysUptoCard : Claim7 := { stood := { row := chunkPlaysUptoRow, standIns := [], harness := (true, "14a7773e844401c40b6c81e7f529dccd12cecd4900e38e3557b6a5d4d5546402"), looks := false }, kinds := [], alts := [], laidByText := true, laidKinds := [.data, .pinned], laidTests := true, laidLooks := .later }
def ChunkPlaysUptoCardSaid : Prop := Claim7.holds Tryz.pinned (.plain (OpenSpec.upto chunkPlaysSpec)) chunkPlaysUptoCard

/-- THE SECOND FORM's CARD OF 'wainscotlaw13.ChunkReads'. -/
def chunkReadsUptoCard : Claim7 := { stood := { row := chunkReadsUptoRow, standIns := [], harness := (true, "14a7773e844401c40b6c81e7f529dccd12cecd4900e38e3557b6a5d4d5546402"), looks := false }, kinds := [], alts := [], laidByText := true, laidKinds := [.data, .pinned], laidTests := true, laidLooks := .later }
def ChunkReadsUptoCardSaid : Prop := Claim7.holds Tryz.pinned (.plain (OpenSpec.upto chunkReadsSpec)) chunkReadsUptoCard
end Rows
end Go.Proofs.YthipaajmgfnagaaGreatDoor
