/-
  DERIVED. GIVEN WITH THE SEED: THE CARDS: each row of YtlpdhbmhbjjnhaaGreatDoorRows.lean that lists a variable, with what it lists TIED to the program's text (the seventh form; the later family's looks); each row that meets fmt, with fmt's text TOLD by the authors' own Lean function (tested against real Go, not proved from fmt's source: count such statements apart). THE CARD IS WHAT COUNTS. Prove the row's statement (the work); the ties are given (YtlpdhbmhbjjnhaaGreatDoorTie.lean); close each card by the builder's one call (the guide's Derived/Test/ToyasCard.lean, 'card_holds'). Laid BY PROGRAM, IN A SANDBOX (cutbox-door.mjs). By AI agents, Wed Nov 11 2026. No macro, syntax, notation, axiom, sorry.
-/
import Derived.Test.YtlpdhbmhbjjnhaaGreatDoorRows
import GoSem.ClaimSeven
namespace Go.Proofs.YtlpdhbmhbjjnhaaGreatDoor
namespace Rows

/-- THE TIED CARD OF 'weirlaw19.StoreChecks'. -/
def storeChecksCard : Claim7 := { stood := { row := storeChecksRow, standIns := [], harness := (true, "aa66116d023f9c0a6a7dfdda29c3fefc661efd9ad427b9f0b4b5761c43e37bdb"), looks := false }, kinds := [], alts := [], laidByText := true, laidKinds := [.data, .data, .data], laidTests := true, laidLooks := .later }
def StoreChecksCardSaid : Prop := Claim7.holds Tryz.pinned (.plain (OpenSpec.ofChange storeChecksSpec)) storeChecksCard

/-- THE TIED CARD OF 'weirlaw19.StoreTimes'. -/
def storeTimesCard : Claim7 := { stood := { row := storeTimesRow, standIns := [], harness := (true, "aa66116d023f9c0a6a7dfdda29c3fefc661efd9ad427b9f0b4b5761c43e37bdb"), looks := false }, kinds := [], alts := [], laidByText := true, laidKinds := [.data, .data, .data], laidTests := true, laidLooks := .later }
def StoreTimesCardSaid : Prop := Claim7.holds Tryz.pinned (.plain (OpenSpec.ofChange storeTimesSpec)) storeTimesCard

/-- THE SECOND FORM's CARD OF 'weirlaw19.StoreChecks'. -/
def storeChecksUptoCard : Claim7 := { stood := { row := storeChecksUptoRow, standIns := [], harness := (true, "aa66116d023f9c0a6a7dfdda29c3fefc661efd9ad427b9f0b4b5761c43e37bdb"), looks := false }, kinds := [], alts := [], laidByText := true, laidKinds := [.data, .data, .data], laidTests := true, laidLooks := .later }
def StoreChecksUptoCardSaid : Prop := Claim7.holds Tryz.pinned (.plain (OpenSpec.upto storeChecksSpec)) storeChecksUptoCard

/-- THE SECOND FORM's CARD OF 'weirlaw19.StoreTimes'. -/
def storeTimesUptoCard : Claim7 := { stood := { row := storeTimesUptoRow, standIns := [], harness := (true, "aa66116d023f9c0a6a7dfdda29c3fefc661efd9ad427b9f0b4b5761c43e37bdb"), looks := false }, kinds := [], alts := [], laidByText := true, laidKinds := [.data, .data, .data], laidTests := true, laidLooks := .later }
def StoreTimesUptoCardSaid : Prop := Claim7.holds Tryz.pinned (.plain (OpenSpec.upto storeTimesSpec)) storeTimesUptoCard
end Rows
end Go.Proofs.YtlpdhbmhbjjnhaaGreatDoor
