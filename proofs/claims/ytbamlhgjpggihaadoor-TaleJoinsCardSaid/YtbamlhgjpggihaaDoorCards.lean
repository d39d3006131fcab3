/-
  DERIVED. GIVEN WITH THE SEED: THE CARDS: each row of YtbamlhgjpggihaaDoorRows.lean that lists a variable, with what it lists TIED to the program's text (the seventh form; the later family's looks); each row that meets fmt, with fmt's text TOLD by the authors' own Lean function (tested against real Go, not proved from fmt's source: count such statements apart). THE CARD IS WHAT COUNTS. Prove the row's statement (the work); the ties are given (YtbamlhgjpggihaaDoorTie.lean); close each card by the builder's one call (the guide's Derived/Test/ToyasCard.lean, 'card_holds'). Laid BY PROGRAM, IN A SANDBOX (cutbox-door.mjs). By AI agents, Wed Nov 11 2026. No macro, syntax, notation, axiom, sorry.
-/
import Derived.Test.YtbamlhgjpggihaaDoorRows
import GoSem.ClaimSeven
namespace Go.Proofs.YtbamlhgjpggihaaDoor
namespace Rows

/-- THE TIED CARD OF 'gazetteerlaw24.TaleTexts'. -/
def taleTextsCard : Claim7 := { stood := { row := taleTextsRow, standIns := [], harness := (true, "cc9511e120e8d383a951d071bfd489a3ec0a5b8930d357b60bea8a924ba140f7"), looks := true }, kinds := [], alts := [], laidByText := true, laidKinds := [.data, .data, .data, .data, .sentinel, .sentinel, .pinned], laidTests := true, laidLooks := .later }
def TaleTextsCardSaid : Prop := Claim7.holds Tryd.pinned (.plain (OpenSpec.ofChange taleTextsSpec)) taleTextsCard

/-- THE TIED CARD OF 'gazetteerlaw24.TaleReads'. -/
def taleReadsCard : Claim7 := { stood := { row := taleReadsRow, standIns := [], harness := (true, "cc9511e120e8d383a951d071bfd489a3ec0a5b8930d357b60bea8a924ba140f7"), looks := true }, kinds := [], alts := [], laidByText := true, laidKinds := [.data, .data, .data, .data, .sentinel, .sentinel, .pinned], laidTests := true, laidLooks := .later }
def TaleReadsCardSaid : Prop := Claim7.holds Tryd.pinned (.plain (OpenSpec.ofChange taleReadsSpec)) taleReadsCard

/-- THE TIED CARD OF 'gazetteerlaw24.TaleJoins'. -/
def taleJoinsCard : Claim7 := { stood := { row := taleJoinsRow, standIns := [], harness := (true, "cc9511e120e8d383a951d071bfd489a3ec0a5b8930d357b60bea8a924ba140f7"), looks := true }, kinds := [], alts := [], laidByText := true, laidKinds := [.data, .data, .data, .data, .sentinel, .sentinel, .pinned], laidTests := true, laidLooks := .later }
def TaleJoinsCardSaid : Prop := Claim7.holds Tryd.pinned (.plain (OpenSpec.ofChange taleJoinsSpec)) taleJoinsCard

/-- THE SECOND FORM's CARD OF 'gazetteerlaw24.TaleTexts'. -/
def taleTextsUptoCard : Claim7 := { stood := { row := taleTextsUptoRow, standIns := [], harness := (true, "cc9511e120e8d383a951d071bfd489a3ec0a5b8930d357b60bea8a924ba140f7"), looks := true }, kinds := [], alts := [], laidByText := true, laidKinds := [.data, .data, .data, .data, .sentinel, .sentinel, .pinned], laidTests := true, laidLooks := .later }
def TaleTextsUptoCardSaid : Prop := Claim7.holds Tryd.pinned (.plain (OpenSpec.upto taleTextsSpec)) taleTextsUptoCard

/-- THE SECOND FORM's CARD OF 'gazetteerlaw24.TaleReads'. -/
def taleReadsUptoCard : Claim7 := { stood := { row := taleReadsUptoRow, standIns := [], harness := (true, "cc9511e120e8d383a951d071bfd489a3ec0a5b8930d357b60bea8a924ba140f7"), looks := true }, kinds := [], alts := [], laidByText := true, laidKinds := [.data, .data, .data, .data, .sentinel, .sentinel, .pinned], laidTests := true, laidLooks := .later }
def TaleReadsUptoCardSaid : Prop := Claim7.holds Tryd.pinned (.plain (OpenSpec.upto taleReadsSpec)) taleReadsUptoCard

/-- THE SECOND FORM's CARD OF 'gazetteerlaw24.TaleJoins'. -/
def taleJoinsUptoCard : Claim7 := { stood := { row := taleJoinsUptoRow, standIns := [], harness := (true, "cc9511e120e8d383a951d071bfd489a3ec0a5b8930d357b60bea8a924ba140f7"), looks := true }, kinds := [], alts := [], laidByText := true, laidKinds := [.data, .data, .data, .data, .sentinel, .sentinel, .pinned], laidTests := true, laidLooks := .later }
def TaleJoinsUptoCardSaid : Prop := Claim7.holds Tryd.pinned (.plain (OpenSpec.upto taleJoinsSpec)) taleJoinsUptoCard
end Rows
end Go.Proofs.YtbamlhgjpggihaaDoor
