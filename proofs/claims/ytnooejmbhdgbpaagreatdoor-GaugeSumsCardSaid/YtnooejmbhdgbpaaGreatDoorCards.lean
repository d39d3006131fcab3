/-
  DERIVED. GIVEN WITH THE SEED: THE CARDS: each row of YtnooejmbhdgbpaaGreatDoorRows.lean that lists a variable, with what it lists TIED to the program's text (the seventh form; the later family's looks); each row that meets fmt, with fmt's text TOLD by the authors' own Lean function (tested against real Go, not proved from fmt's source: count such statements apart). THE CARD IS WHAT COUNTS. Prove the row's statement (the work); the ties are given (YtnooejmbhdgbpaaGreatDoorTie.lean); close each card by the builder's one call (the guide's Derived/Test/ToyasCard.lean, 'card_holds'). Laid BY PROGRAM, IN A SANDBOX (cutbox-door.mjs). By AI agents, Wed Nov 11 2026. No macro, syntax, notation, axiom, sorry.
-/
import Derived.Test.YtnooejmbhdgbpaaGreatDoorRows
import GoSem.ClaimSeven
namespace Go.Proofs.YtnooejmbhdgbpaaGreatDoor
namespace Rows

/-- THE TIED CARD OF 'gazetteerlaw25.GaugeGroups'. -/
def gaugeGroupsCard : Claim7 := { stood := { row := gaugeGroupsRow, standIns := [], harness := (true, "b11f6e01221e0b7fe73063e6ac33a0e32e278b4e12e94e6ead460126d278ff0c"), looks := false }, kinds := [], alts := [], laidByText := true, laidKinds := [.data, .pinned], laidTests := true, laidLooks := .later }
def GaugeGroupsCardSaid : Prop := Claim7.holds Tryz.pinned (.plain (OpenSpec.ofChange gaugeGroupsSpec)) gaugeGroupsCard

/-- THE TIED CARD OF 'gazetteerlaw25.GaugeSums'. -/
def gaugeSumsCard : Claim7 := { stood := { row := gaugeSumsRow, standIns := [], harness := (true, "b11f6e01221e0b7fe73063e6ac33a0e32e278b4e12e94e6ead460126d278ff0c"), looks := false }, kinds := [], alts := [], laidByText := true, laidKinds := [.data, .pinned], laidTests := true, laidLooks := .later }
def GaugeSumsCardSaid : Prop := Claim7.holds Tryz.pinned (.plain (OpenSpec.ofChange gaugeSumsSpec)) gaugeSumsCard

/-- THE SECOND FORM's CARD OF 'gazetteerlaw25.GaugeGroups'. -/
def gaugeGroupsUptoCard : Claim7 := { stood := { row := gaugeGroupsUptoRow, standIns := [], harness := (true, "b11f6e01221e0b7fe73063e6ac33a0e32e278b4e12e94e6ead460126d278ff0c"), looks := false }, kinds := [], alts := [], laidByText := true, laidKinds := [.data, .pinned], laidTests := true, laidLooks := .later }
def GaugeGroupsUptoCardSaid : Prop := Claim7.holds Tryz.pinned (.plain (OpenSpec.upto gaugeGroupsSpec)) gaugeGroupsUptoCard

/-- THE SECOND FORM's CARD OF 'gazetteerlaw25.GaugeSums'. -/
def gaugeSumsUptoCard : Claim7 := { stood := { row := gaugeSumsUptoRow, standIns := [], harness := (true, "b11f6e01221e0b7fe73063e6ac33a0e32e278b4e12e94e6ead460126d278ff0c"), looks := false }, kinds := [], alts := [], laidByText := true, laidKinds := [.data, .pinned], laidTests := true, laidLooks := .later }
def GaugeSumsUptoCardSaid : Prop := Claim7.holds Tryz.pinned (.plain (OpenSpec.upto gaugeSumsSpec)) gaugeSumsUptoCard
end Rows
end Go.Proofs.YtnooejmbhdgbpaaGreatDoor
