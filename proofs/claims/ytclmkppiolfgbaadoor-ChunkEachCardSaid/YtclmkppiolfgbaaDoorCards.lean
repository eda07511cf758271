/-
  DERIVED. GIVEN WITH THE SEED: THE CARDS: each row of YtclmkppiolfgbaaDoorRows.lean that lists a variable, with what it lists TIED to the program's text (the seventh form; the later family's looks); each row that meets fmt, with fmt's text TOLD by the authors' own Lean function (tested against real Go, not proved from fmt's source: count such statements apart). THE CARD IS WHAT COUNTS. Prove the row's statement (the work); the ties are given (YtclmkppiolfgbaaDoorTie.lean); close each card by the builder's one call (the guide's Derived/Test/ToyasCard.lean, 'card_holds'). Laid BY PROGRAM, IN A SANDBOX (cutbox-door.mjs). By AI agents, Wed Nov 11 2026. No macro, syntax, notation, axiom, sorry.
-/
import Derived.Test.YtclmkppiolfgbaaDoorRows
import GoSem.ClaimSeven
namespace Go.Proofs.YtclmkppiolfgbaaDoor
namespace Rows

/-- THE TIED CARD OF 'weirlaw17.ChunkPacks'. -/
def chunkPacksCard : Claim7 := { stood := { row := chunkPacksRow, standIns := [], harness := (true, "e023ce3d27b18a45477408f07d18f23159589b5dce2a399cd4bbd64af8da7f1d"), looks := false }, kinds := [], alts := [], laidByText := true, laidKinds := [.data], laidTests := true, laidLooks := .later }
def ChunkPacksCardSaid : Prop := Claim7.holds Tryd.pinned (.plain (OpenSpec.ofChange chunkPacksSpec)) chunkPacksCard

/-- THE TIED CARD OF 'weirlaw17.ChunkGrows'. -/
def chunkGrowsCard : Claim7 := { stood := { row := chunkGrowsRow, standIns := [], harness := (true, "e023ce3d27b18a45477408f07d18f23159589b5dce2a399cd4bbd64af8da7f1d"), looks := false }, kinds := [], alts := [], laidByText := true, laidKinds := [.data], laidTests := true, laidLooks := .later }
def ChunkGrowsCardSaid : Prop := Claim7.holds Tryd.pinned (.plain (OpenSpec.ofChange chunkGrowsSpec)) chunkGrowsCard

/-- THE TIED CARD OF 'weirlaw17.ChunkBack'. -/
def chunkBackCard : Claim7 := { stood := { row := chunkBackRow, standIns := [], harness := (true, "e023ce3d27b18a45477408f07d18f23159589b5dce2a399cd4bbd64af8da7f1d"), looks := false }, kinds := [], alts := [], laidByText := true, laidKinds := [.data], laidTests := true, laidLooks := .later }
def ChunkBackCardSaid : Prop := Claim7.holds Tryd.pinned (.plain (OpenSpec.ofChange chunkBackSpec)) chunkBackCard

/-- THE TIED CARD OF 'weirlaw17.ChunkSteps'. -/
def chunkStepsCard : Claim7 := { stood := { row := chunkStepsRow, standIns := [], harness := (true, "e023ce3d27b18a45477408f07d18f23159589b5dce2a399cd4bbd64af8da7f1d"), looks := false }, kinds := [], alts := [], laidByText := true, laidKinds := [.data], laidTests := true, laidLooks := .later }
def ChunkStepsCardSaid : Prop := Claim7.holds Tryd.pinned (.plain (OpenSpec.ofChange chunkStepsSpec)) chunkStepsCard

/-- THE TIED CARD OF 'weirlaw17.ChunkEach'. -/
def chunkEachCard : Claim7 := { stood := { row := chunkEachRow, standIns := [], harness := (true, "e023ce3d27b18a45477408f07d18f23159589b5dce2a399cd4bbd64af8da7f1d"), looks := false }, kinds := [], alts := [], laidByText := true, laidKinds := [.data], laidTests := true, laidLooks := .later }
def ChunkEachCardSaid : Prop := Claim7.holds Tryd.pinned (.plain (OpenSpec.ofChange chunkEachSpec)) chunkEachCard

/-- THE TIED CARD OF 'weirlaw17.ChunkKeeps'. -/
def chunkKeepsCard : Claim7 := { stood := { row := chunkKeepsRow, standIns := [], harness := (true, "e023ce3d27b18a45477408f07d18f23159589b5dce2a399cd4bbd64af8da7f1d"), looks := false }, kinds := [], alts := [], laidByText := true, laidKinds := [.data], laidTests := true, laidLooks := .later }
def ChunkKeepsCardSaid : Prop := Claim7.holds Tryd.pinned (.plain (OpenSpec.ofChange chunkKeepsSpec)) chunkKeepsCard

/-- THE TIED CARD OF 'weirlaw17.ChunkNames'. -/
def chunkNamesCard : Claim7 := { stood := { row := chunkNamesRow, standIns := [], harness := (true, "e023ce3d27b18a45477408f07d18f23159589b5dce2a399cd4bbd64af8da7f1d"), looks := false }, kinds := [], alts := [], laidByText := true, laidKinds := [.data], laidTests := true, laidLooks := .later }
def ChunkNamesCardSaid : Prop := Claim7.holds Tryd.pinned (.plain (OpenSpec.ofChange chunkNamesSpec)) chunkNamesCard

/-- THE TIED CARD OF 'weirlaw17.ChunkReads'. -/
def chunkReadsCard : Claim7 := { stood := { row := chunkReadsRow, standIns := [], harness := (true, "e023ce3d27b18a45477408f07d18f23159589b5dce2a399cd4bbd64af8da7f1d"), looks := false }, kinds := [], alts := [], laidByText := true, laidKinds := [.data], laidTests := true, laidLooks := .later }
def ChunkReadsCardSaid : Prop := Claim7.holds Tryd.pinned (.plain (OpenSpec.ofChange chunkReadsSpec)) chunkReadsCard

/-- THE SECOND FORM's CARD OF 'weirlaw17.ChunkPacks'. -/
def chunkPacksUptoCard : Claim7 := { stood := { row := chunkPacksUptoRow, standIns := [], harness := (true, "e023ce3d27b18a45477408f07d18f23159589b5dce2a399cd4bbd64af8da7f1d"), looks := false }, kinds := [], alts := [], laidByText := true, laidKinds := [.data], laidTests := true, laidLooks := .later }
def ChunkPacksUptoCardSaid : Prop := Claim7.holds Tryd.pinned (.plain (OpenSpec.upto chunkPacksSpec)) chunkPacksUptoCard

/-- THE SECOND FORM's CARD OF 'weirlaw17.ChunkGrows'. -/
def chunkGrowsUptoCard : Claim7 := { stood := { row := chunkGrowsUptoRow, standIns := [], harness := (true, "e023ce3d27b18a45477408f07d18f23159589b5dce2a399cd4bbd64af8da7f1d"), looks := false }, kinds := [], alts := [], laidByText := true, laidKinds := [.data], laidTests := true, laidLooks := .later }
def ChunkGrowsUptoCardSaid : Prop := Claim7.holds Tryd.pinned (.plain (OpenSpec.upto chunkGrowsSpec)) chunkGrowsUptoCard

/-- THE SECOND FORM's CARD OF 'weirlaw17.ChunkBack'. -/
def chunkBackUptoCard : Claim7 := { stood := { row := chunkBackUptoRow, standIns := [], harness := (true, "e023ce3d27b18a45477408f07d18f23159589b5dce2a399cd4bbd64af8da7f1d"), looks := false }, kinds := [], alts := [], laidByText := true, laidKinds := [.data], laidTests := true, laidLooks := .later }
def ChunkBackUptoCardSaid : Prop := Claim7.holds Tryd.pinned (.plain (OpenSpec.upto chunkBackSpec)) chunkBackUptoCard

/-- THE SECOND FORM's CARD OF 'weirlaw17.ChunkSteps'. -/
def chunkStepsUptoCard : Claim7 := { stood := { row := chunkStepsUptoRow, standIns := [], harness := (true, "e023ce3d27b18a45477408f07d18f23159589b5dce2a399cd4bbd64af8da7f1d"), looks := false }, kinds := [], alts := [], laidByText := true, laidKinds := [.data], laidTests := true, laidLooks := .later }
def ChunkStepsUptoCardSaid : Prop := Claim7.holds Tryd.pinned (.plain (OpenSpec.upto chunkStepsSpec)) chunkStepsUptoCard

/-- THE SECOND FORM's CARD OF 'weirlaw17.ChunkEach'. -/
def chunkEachUptoCard : Claim7 := { stood := { row := chunkEachUptoRow, standIns := [], harness := (true, "e023ce3d27b18a45477408f07d18f23159589b5dce2a399cd4bbd64af8da7f1d"), looks := false }, kinds := [], alts := [], laidByText := true, laidKinds := [.data], laidTests := true, laidLooks := .later }
def ChunkEachUptoCardSaid : Prop := Claim7.holds Tryd.pinned (.plain (OpenSpec.upto chunkEachSpec)) chunkEachUptoCard

/-- THE SECOND FORM's CARD OF 'weirlaw17.ChunkKeeps'. -/
def chunkKeepsUptoCard : Claim7 := { stood := { row := chunkKeepsUptoRow, standIns := [], harness := (true, "e023ce3d27b18a45477408f07d18f23159589b5dce2a399cd4bbd64af8da7f1d"), looks := false }, kinds := [], alts := [], laidByText := true, laidKinds := [.data], laidTests := true, laidLooks := .later }
def ChunkKeepsUptoCardSaid : Prop := Claim7.holds Tryd.pinned (.plain (OpenSpec.upto chunkKeepsSpec)) chunkKeepsUptoCard

/-- THE SECOND FORM's CARD OF 'weirlaw17.ChunkNames'. -/
def chunkNamesUptoCard : Claim7 := { stood := { row := chunkNamesUptoRow, standIns := [], harness := (true, "e023ce3d27b18a45477408f07d18f23159589b5dce2a399cd4bbd64af8da7f1d"), looks := false }, kinds := [], alts := [], laidByText := true, laidKinds := [.data], laidTests := true, laidLooks := .later }
def ChunkNamesUptoCardSaid : Prop := Claim7.holds Tryd.pinned (.plain (OpenSpec.upto chunkNamesSpec)) chunkNamesUptoCard

/-- THE SECOND FORM's CARD OF 'weirlaw17.ChunkReads'. -/
def chunkReadsUptoCard : Claim7 := { stood := { row := chunkReadsUptoRow, standIns := [], harness := (true, "e023ce3d27b18a45477408f07d18f23159589b5dce2a399cd4bbd64af8da7f1d"), looks := false }, kinds := [], alts := [], laidByText := true, laidKinds := [.data], laidTests := true, laidLooks := .later }
def ChunkReadsUptoCardSaid : Prop := Claim7.holds Tryd.pinned (.plain (OpenSpec.upto chunkReadsSpec)) chunkReadsUptoCard
end Rows
end Go.Proofs.YtclmkppiolfgbaaDoor
