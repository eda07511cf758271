/-
  DERIVED. GIVEN WITH THE SEED: THE CARDS: each row of YtljadkcojnlioaaGreatDoorRows.lean that lists a variable, with what it lists TIED to the program's text (the seventh form; the later family's looks); each row that meets fmt, with fmt's text TOLD by the authors' own Lean function (tested against real Go, not proved from fmt's source: count such statements apart). THE CARD IS WHAT COUNTS. Prove the row's statement (the work); the ties are given (YtljadkcojnlioaaGreatDoorTie.lean); close each card by the builder's one call (the guide's Derived/Test/ToyasCard.lean, 'card_holds'). Laid BY PROGRAM, IN A SANDBOX (cutbox-door.mjs). By AI agents, Wed Nov 11 2026. No macro, syntax, notation, axiom, sorry.
-/
import Derived.Test.YtljadkcojnlioaaGreatDoorRows
import GoSem.ClaimSeven
namespace Go.Proofs.YtljadkcojnlioaaGreatDoor
namespace Rows

/-- THE TIED CARD OF 'weirlaw08.RxtreeParses'. -/
def rxtreeParsesCard : Claim7 := { stood := { row := rxtreeParsesRow, standIns := [], harness := (true, "3f30d12ab213e8a49adb90367ddadf36e3dcb6d6dae1170dfcb498a97e3eaf5b"), looks := true }, kinds := [], alts := [], laidByText := true, laidKinds := [.data, .data, .data], laidTests := true, laidLooks := .later }
def RxtreeParsesCardSaid : Prop := Claim7.holds Tryz.pinned (.plain (OpenSpec.ofChange rxtreeParsesSpec)) rxtreeParsesCard

/-- THE TIED CARD OF 'weirlaw08.RxtreeQuotes'. -/
def rxtreeQuotesCard : Claim7 := { stood := { row := rxtreeQuotesRow, standIns := [], harness := (true, "3f30d12ab213e8a49adb90367ddadf36e3dcb6d6dae1170dfcb498a97e3eaf5b"), looks := true }, kinds := [], alts := [], laidByText := true, laidKinds := [.data, .data, .data], laidTests := true, laidLooks := .later }
def RxtreeQuotesCardSaid : Prop := Claim7.holds Tryz.pinned (.plain (OpenSpec.ofChange rxtreeQuotesSpec)) rxtreeQuotesCard

/-- THE TIED CARD OF 'weirlaw08.RxtreeBack'. -/
def rxtreeBackCard : Claim7 := { stood := { row := rxtreeBackRow, standIns := [], harness := (true, "3f30d12ab213e8a49adb90367ddadf36e3dcb6d6dae1170dfcb498a97e3eaf5b"), looks := true }, kinds := [], alts := [], laidByText := true, laidKinds := [.data, .data, .data], laidTests := true, laidLooks := .later }
def RxtreeBackCardSaid : Prop := Claim7.holds Tryz.pinned (.plain (OpenSpec.ofChange rxtreeBackSpec)) rxtreeBackCard

/-- THE TIED CARD OF 'weirlaw08.RxtreeNot'. -/
def rxtreeNotCard : Claim7 := { stood := { row := rxtreeNotRow, standIns := [], harness := (true, "3f30d12ab213e8a49adb90367ddadf36e3dcb6d6dae1170dfcb498a97e3eaf5b"), looks := true }, kinds := [], alts := [], laidByText := true, laidKinds := [.data, .data, .data], laidTests := true, laidLooks := .later }
def RxtreeNotCardSaid : Prop := Claim7.holds Tryz.pinned (.plain (OpenSpec.ofChange rxtreeNotSpec)) rxtreeNotCard

/-- THE TIED CARD OF 'weirlaw08.RxtreeShows'. -/
def rxtreeShowsCard : Claim7 := { stood := { row := rxtreeShowsRow, standIns := [], harness := (true, "3f30d12ab213e8a49adb90367ddadf36e3dcb6d6dae1170dfcb498a97e3eaf5b"), looks := true }, kinds := [], alts := [], laidByText := true, laidKinds := [.data, .data, .data], laidTests := true, laidLooks := .later }
def RxtreeShowsCardSaid : Prop := Claim7.holds Tryz.pinned (.plain (OpenSpec.ofChange rxtreeShowsSpec)) rxtreeShowsCard

/-- THE TIED CARD OF 'weirlaw08.RxtreeJoins'. -/
def rxtreeJoinsCard : Claim7 := { stood := { row := rxtreeJoinsRow, standIns := [], harness := (true, "3f30d12ab213e8a49adb90367ddadf36e3dcb6d6dae1170dfcb498a97e3eaf5b"), looks := true }, kinds := [], alts := [], laidByText := true, laidKinds := [.data, .data, .data], laidTests := true, laidLooks := .later }
def RxtreeJoinsCardSaid : Prop := Claim7.holds Tryz.pinned (.plain (OpenSpec.ofChange rxtreeJoinsSpec)) rxtreeJoinsCard

/-- THE TIED CARD OF 'weirlaw08.RxtreeKeeps'. -/
def rxtreeKeepsCard : Claim7 := { stood := { row := rxtreeKeepsRow, standIns := [], harness := (true, "3f30d12ab213e8a49adb90367ddadf36e3dcb6d6dae1170dfcb498a97e3eaf5b"), looks := true }, kinds := [], alts := [], laidByText := true, laidKinds := [.data, .data, .data], laidTests := true, laidLooks := .later }
def RxtreeKeepsCardSaid : Prop := Claim7.holds Tryz.pinned (.plain (OpenSpec.ofChange rxtreeKeepsSpec)) rxtreeKeepsCard

/-- THE SECOND FORM's CARD OF 'weirlaw08.RxtreeParses'. -/
def rxtreeParsesUptoCard : Claim7 := { stood := { row := rxtreeParsesUptoRow, standIns := [], harness := (true, "3f30d12ab213e8a49adb90367ddadf36e3dcb6d6dae1170dfcb498a97e3eaf5b"), looks := true }, kinds := [], alts := [], laidByText := true, laidKinds := [.data, .data, .data], laidTests := true, laidLooks := .later }
def RxtreeParsesUptoCardSaid : Prop := Claim7.holds Tryz.pinned (.plain (OpenSpec.upto rxtreeParsesSpec)) rxtreeParsesUptoCard

/-- THE SECOND FORM's CARD OF 'weirlaw08.RxtreeQuotes'. -/
def rxtreeQuotesUptoCard : Claim7 := { stood := { row := rxtreeQuotesUptoRow, standIns := [], harness := (true, "3f30d12ab213e8a49adb90367ddadf36e3dcb6d6dae1170dfcb498a97e3eaf5b"), looks := true }, kinds := [], alts := [], laidByText := true, laidKinds := [.data, .data, .data], laidTests := true, laidLooks := .later }
def RxtreeQuotesUptoCardSaid : Prop := Claim7.holds Tryz.pinned (.plain (OpenSpec.upto rxtreeQuotesSpec)) rxtreeQuotesUptoCard

/-- THE SECOND FORM's CARD OF 'weirlaw08.RxtreeBack'. -/
def rxtreeBackUptoCard : Claim7 := { stood := { row := rxtreeBackUptoRow, standIns := [], harness := (true, "3f30d12ab213e8a49adb90367ddadf36e3dcb6d6dae1170dfcb498a97e3eaf5b"), looks := true }, kinds := [], alts := [], laidByText := true, laidKinds := [.data, .data, .data], laidTests := true, laidLooks := .later }
def RxtreeBackUptoCardSaid : Prop := Claim7.holds Tryz.pinned (.plain (OpenSpec.upto rxtreeBackSpec)) rxtreeBackUptoCard

/-- THE SECOND FORM's CARD OF 'weirlaw08.RxtreeNot'. -/
def rxtreeNotUptoCard : Claim7 := { stood := { row := rxtreeNotUptoRow, standIns := [], harness := (true, "3f30d12ab213e8a49adb90367ddadf36e3dcb6d6dae1170dfcb498a97e3eaf5b"), looks := true }, kinds := [], alts := [], laidByText := true, laidKinds := [.data, .data, .data], laidTests := true, laidLooks := .later }
def RxtreeNotUptoCardSaid : Prop := Claim7.holds Tryz.pinned (.plain (OpenSpec.upto rxtreeNotSpec)) rxtreeNotUptoCard

/-- THE SECOND FORM's CARD OF 'weirlaw08.RxtreeShows'. -/
def rxtreeShowsUptoCard : Claim7 := { stood := { row := rxtreeShowsUptoRow, standIns := [], harness := (true, "3f30d12ab213e8a49adb90367ddadf36e3dcb6d6dae1170dfcb498a97e3eaf5b"), looks := true }, kinds := [], alts := [], laidByText := true, laidKinds := [.data, .data, .data], laidTests := true, laidLooks := .later }
def RxtreeShowsUptoCardSaid : Prop := Claim7.holds Tryz.pinned (.plain (OpenSpec.upto rxtreeShowsSpec)) rxtreeShowsUptoCard

/-- THE SECOND FORM's CARD OF 'weirlaw08.RxtreeJoins'. -/
def rxtreeJoinsUptoCard : Claim7 := { stood := { row := rxtreeJoinsUptoRow, standIns := [], harness := (true, "3f30d12ab213e8a49adb90367ddadf36e3dcb6d6dae1170dfcb498a97e3eaf5b"), looks := true }, kinds := [], alts := [], laidByText := true, laidKinds := [.data, .data, .data], laidTests := true, laidLooks := .later }
def RxtreeJoinsUptoCardSaid : Prop := Claim7.holds Tryz.pinned (.plain (OpenSpec.upto rxtreeJoinsSpec)) rxtreeJoinsUptoCard

/-- THE SECOND FORM's CARD OF 'weirlaw08.RxtreeKeeps'. -/
def rxtreeKeepsUptoCard : Claim7 := { stood := { row := rxtreeKeepsUptoRow, standIns := [], harness := (true, "3f30d12ab213e8a49adb90367ddadf36e3dcb6d6dae1170dfcb498a97e3eaf5b"), looks := true }, kinds := [], alts := [], laidByText := true, laidKinds := [.data, .data, .data], laidTests := true, laidLooks := .later }
def RxtreeKeepsUptoCardSaid : Prop := Claim7.holds Tryz.pinned (.plain (OpenSpec.upto rxtreeKeepsSpec)) rxtreeKeepsUptoCard
end Rows
end Go.Proofs.YtljadkcojnlioaaGreatDoor
