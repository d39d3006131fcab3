/-
  DERIVED. GIVEN WITH THE SEED: THE CARDS: each row of YtgaopohogdinhaaGreatDoorRows.lean that lists a variable, with what it lists TIED to the program's text (the seventh form; the later family's looks); each row that meets fmt, with fmt's text TOLD by the authors' own Lean function (tested against real Go, not proved from fmt's source: count such statements apart). THE CARD IS WHAT COUNTS. Prove the row's statement (the work); the ties are given (YtgaopohogdinhaaGreatDoorTie.lean); close each card by the builder's one call (the guide's Derived/Test/ToyasCard.lean, 'card_holds'). Laid BY PROGRAM, IN A SANDBOX (cutbox-door.mjs). By AI agents, Wed Nov 11 2026. No macro, syntax, notation, axiom, sorry.
-/
import Derived.Test.YtgaopohogdinhaaGreatDoorRows
import GoSem.ClaimSeven
namespace Go.Proofs.YtgaopohogdinhaaGreatDoor
namespace Rows

/-- THE TIED CARD OF 'gazetteerlaw18.KeeperLeases'. -/
def keeperLeasesCard : Claim7 := { stood := { row := keeperLeasesRow, standIns := [], harness := (true, "70cf8522c0e21461407f4efb4af6705df801419077760b847706c87ecf4986a5"), looks := false }, kinds := [], alts := [], laidByText := true, laidKinds := [.data, .pinned], laidTests := true, laidLooks := .later }
def KeeperLeasesCardSaid : Prop := Claim7.holds Tryz.pinned (.plain (OpenSpec.ofChange keeperLeasesSpec)) keeperLeasesCard

/-- THE TIED CARD OF 'gazetteerlaw18.KeeperQuiet'. -/
def keeperQuietCard : Claim7 := { stood := { row := keeperQuietRow, standIns := [], harness := (true, "70cf8522c0e21461407f4efb4af6705df801419077760b847706c87ecf4986a5"), looks := false }, kinds := [], alts := [], laidByText := true, laidKinds := [.data, .pinned], laidTests := true, laidLooks := .later }
def KeeperQuietCardSaid : Prop := Claim7.holds Tryz.pinned (.plain (OpenSpec.ofChange keeperQuietSpec)) keeperQuietCard

/-- THE SECOND FORM's CARD OF 'gazetteerlaw18.KeeperLeases'. -/
def keeperLeasesUptoCard : Claim7 := { stood := { row := keeperLeasesUptoRow, standIns := [], harness := (true, "70cf8522c0e21461407f4efb4af6705df801419077760b847706c87ecf4986a5"), looks := false }, kinds := [], alts := [], laidByText := true, laidKinds := [.data, .pinned], laidTests := true, laidLooks := .later }
def KeeperLeasesUptoCardSaid : Prop := Claim7.holds Tryz.pinned (.plain (OpenSpec.upto keeperLeasesSpec)) keeperLeasesUptoCard

/-- THE SECOND FORM's CARD OF 'gazetteerlaw18.KeeperQuiet'. -/
def keeperQuietUptoCard : Claim7 := { stood := { row := keeperQuietUptoRow, standIns := [], harness := (true, "70cf8522c0e21461407f4efb4af6705df801419077760b847706c87ecf4986a5"), looks := false }, kinds := [], alts := [], laidByText := true, laidKinds := [.data, .pinned], laidTests := true, laidLooks := .later }
def KeeperQuietUptoCardSaid : Prop := Claim7.holds Tryz.pinned (.plain (OpenSpec.upto keeperQuietSpec)) keeperQuietUptoCard
end Rows
end Go.Proofs.YtgaopohogdinhaaGreatDoor
