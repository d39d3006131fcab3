/-
  No cell of these rows narrows 'for every input' (looked for: loops, veiled, ifaces, maps, wideKeys, modest, calm, conditions, laid).
  DERIVED. THE GIVEN ROWS OF THIS SEAT. 6 by the template 'for every input the law returns true; each argument reads behind the call as it read before'; 0 by the template 'total and deterministic' (their statements: YtmjnmnhpmbbmgaaTotals.lean).
  GIVEN WITH THE SEED: the statements are not yours to turn. If you find one false, say at which input.
  Laid BY PROGRAM, IN A SANDBOX (cutbox-rows.mjs): the forced cells as the released guide's own fill.sh prints them over the translation 178b6c617154df1e… (all of the seat's roots in one cut). By AI agents, Wed Nov 11 2026. No macro, syntax, notation, axiom, sorry.
-/
import Derived.Test.YtmjnmnhpmbbmgaaChecked
import GoSem.Claim
import GoSem.ClaimJoined
import GoSem.ClaimMapViews
import Derived.JoinedTies
import Derived.KernelRfl
namespace Go.Proofs.Ytmjnmnhpmbbmgaa
/- THE CELL 'sum', in the pinned program and in every row, IS THE sha256 OF THE DUMP (.gsa) THAT YtmjnmnhpmbbmgaaProg.lean LOADS. Nothing in Lean hashes anything: it is a label: what it is worth is what the hold of that sum in a sandbox is worth. -/
noncomputable def Try.pinned : Pinned := { name := "ytmjnmnhpmbbmgaa", sum := "178b6c617154df1e093240372f1c83b422b8bdbe7c3240cde5d6e4e3e8d8ae3d", checked := Try.checked }
namespace Rows
def none {H : Type} : Left H := { results := [], args := [] }

/-- 'gazetteerlaw23.TourGoes': WHATEVER THE INPUT: true; the input reads as it did. -/
def tourGoesSpec : ChangeSpec := { name := "tourGoes", fn := fun _ => fun
  | [d1, d2, d3] => { results := [.lit (.bool true)], args := [d1, d2, d3] }
  | _ => none }
def tourGoesRow : OpenClaim := { program := "ytmjnmnhpmbbmgaa", sum := "178b6c617154df1e093240372f1c83b422b8bdbe7c3240cde5d6e4e3e8d8ae3d", func := "gazetteer/gazetteerlaw23.TourGoes", spec := "tourGoes", apart := false }
def TourGoesSaid : Prop := tourGoesRow.holds Try.pinned (OpenSpec.ofChange tourGoesSpec)

/-- ITS FALSE NEIGHBOUR: 'it returns false'. Refute it at one input. -/
def tourGoesWrong : ChangeSpec := { name := "tourGoes", fn := fun _ => fun
  | [d1, d2, d3] => { results := [.lit (.bool false)], args := [d1, d2, d3] }
  | _ => none }
def TourGoesWrongFalsely : Prop := tourGoesRow.holds Try.pinned (OpenSpec.ofChange tourGoesWrong)

/-- 'gazetteerlaw23.TourTakes': WHATEVER THE INPUT: true; the input reads as it did. -/
def tourTakesSpec : ChangeSpec := { name := "tourTakes", fn := fun _ => fun
  | [d1, d2, d3] => { results := [.lit (.bool true)], args := [d1, d2, d3] }
  | _ => none }
def tourTakesRow : OpenClaim := { program := "ytmjnmnhpmbbmgaa", sum := "178b6c617154df1e093240372f1c83b422b8bdbe7c3240cde5d6e4e3e8d8ae3d", func := "gazetteer/gazetteerlaw23.TourTakes", spec := "tourTakes", apart := false }
def TourTakesSaid : Prop := tourTakesRow.holds Try.pinned (OpenSpec.ofChange tourTakesSpec)

/-- ITS FALSE NEIGHBOUR: 'it returns false'. Refute it at one input. -/
def tourTakesWrong : ChangeSpec := { name := "tourTakes", fn := fun _ => fun
  | [d1, d2, d3] => { results := [.lit (.bool false)], args := [d1, d2, d3] }
  | _ => none }
def TourTakesWrongFalsely : Prop := tourTakesRow.holds Try.pinned (OpenSpec.ofChange tourTakesWrong)

/-- 'gazetteerlaw23.TourKnown': WHATEVER THE INPUT: true; the input reads as it did. -/
def tourKnownSpec : ChangeSpec := { name := "tourKnown", fn := fun _ => fun
  | [] => { results := [.lit (.bool true)], args := [] }
  | _ => none }
def tourKnownRow : OpenClaim := { program := "ytmjnmnhpmbbmgaa", sum := "178b6c617154df1e093240372f1c83b422b8bdbe7c3240cde5d6e4e3e8d8ae3d", func := "gazetteer/gazetteerlaw23.TourKnown", spec := "tourKnown", apart := false }
def TourKnownSaid : Prop := tourKnownRow.holds Try.pinned (OpenSpec.ofChange tourKnownSpec)

/-- ITS FALSE NEIGHBOUR: 'it returns false'. Refute it at one input. -/
def tourKnownWrong : ChangeSpec := { name := "tourKnown", fn := fun _ => fun
  | [] => { results := [.lit (.bool false)], args := [] }
  | _ => none }
def TourKnownWrongFalsely : Prop := tourKnownRow.holds Try.pinned (OpenSpec.ofChange tourKnownWrong)

/-- 'gazetteerlaw23.TourLimits': WHATEVER THE INPUT: true; the input reads as it did. -/
def tourLimitsSpec : ChangeSpec := { name := "tourLimits", fn := fun _ => fun
  | [d1, d2] => { results := [.lit (.bool true)], args := [d1, d2] }
  | _ => none }
def tourLimitsRow : OpenClaim := { program := "ytmjnmnhpmbbmgaa", sum := "178b6c617154df1e093240372f1c83b422b8bdbe7c3240cde5d6e4e3e8d8ae3d", func := "gazetteer/gazetteerlaw23.TourLimits", spec := "tourLimits", apart := false }
def TourLimitsSaid : Prop := tourLimitsRow.holds Try.pinned (OpenSpec.ofChange tourLimitsSpec)

/-- ITS FALSE NEIGHBOUR: 'it returns false'. Refute it at one input. -/
def tourLimitsWrong : ChangeSpec := { name := "tourLimits", fn := fun _ => fun
  | [d1, d2] => { results := [.lit (.bool false)], args := [d1, d2] }
  | _ => none }
def TourLimitsWrongFalsely : Prop := tourLimitsRow.holds Try.pinned (OpenSpec.ofChange tourLimitsWrong)

/-- 'gazetteerlaw23.TourSpans': WHATEVER THE INPUT: true; the input reads as it did. -/
def tourSpansSpec : ChangeSpec := { name := "tourSpans", fn := fun _ => fun
  | [d] => { results := [.lit (.bool true)], args := [d] }
  | _ => none }
def tourSpansRow : OpenClaim := { program := "ytmjnmnhpmbbmgaa", sum := "178b6c617154df1e093240372f1c83b422b8bdbe7c3240cde5d6e4e3e8d8ae3d", func := "gazetteer/gazetteerlaw23.TourSpans", spec := "tourSpans", apart := false }
def TourSpansSaid : Prop := tourSpansRow.holds Try.pinned (OpenSpec.ofChange tourSpansSpec)

/-- ITS FALSE NEIGHBOUR: 'it returns false'. Refute it at one input. -/
def tourSpansWrong : ChangeSpec := { name := "tourSpans", fn := fun _ => fun
  | [d] => { results := [.lit (.bool false)], args := [d] }
  | _ => none }
def TourSpansWrongFalsely : Prop := tourSpansRow.holds Try.pinned (OpenSpec.ofChange tourSpansWrong)

/-- 'gazetteerlaw9.ParcelApart': WHATEVER THE INPUT: true; the input reads as it did. -/
def parcelApartSpec : ChangeSpec := { name := "parcelApart", fn := fun _ => fun
  | [d1, d2, d3] => { results := [.lit (.bool true)], args := [d1, d2, d3] }
  | _ => none }
def parcelApartRow : OpenClaim := { program := "ytmjnmnhpmbbmgaa", sum := "178b6c617154df1e093240372f1c83b422b8bdbe7c3240cde5d6e4e3e8d8ae3d", func := "gazetteer/gazetteerlaw9.ParcelApart", spec := "parcelApart", apart := false }
def ParcelApartSaid : Prop := parcelApartRow.holds Try.pinned (OpenSpec.ofChange parcelApartSpec)

/-- ITS FALSE NEIGHBOUR: 'it returns false'. Refute it at one input. -/
def parcelApartWrong : ChangeSpec := { name := "parcelApart", fn := fun _ => fun
  | [d1, d2, d3] => { results := [.lit (.bool false)], args := [d1, d2, d3] }
  | _ => none }
def ParcelApartWrongFalsely : Prop := parcelApartRow.holds Try.pinned (OpenSpec.ofChange parcelApartWrong)

/- THE SECOND FORM. 'bulk': how many values and letters a reading holds, each counted each time it is reached (what is shared counts as often as it is met; a slice's spare places count too). A statement '..UptoSaid' is the law's where the arguments, and the package variables that the reading takes, are together of bulk at most 1048576: NARROWER than '..Said'. Prove '..Said' where nothing that the law and all that it calls make is longer than what came in: it says more and counts as full. Else prove '..UptoSaid'. A law counts once. -/
mutual
def uptoBulk {H : Type} : DataW H → Nat
  | .lit (.string bytes) => bytes.length + 1
  | .lit _ => 1
  | .nil => 1
  | .ptr d => uptoBulk d + 1
  | .slice elems spare => uptoBulkAll elems + uptoBulkAll spare + 1
  | .agg parts => uptoBulkAll parts + 1
  | .iface _ d => uptoBulk d + 1
  | .map entries => uptoBulkEntries entries + 1
  | .held _ => 1
def uptoBulkAll {H : Type} : List (DataW H) → Nat
  | [] => 0
  | d :: r => uptoBulk d + uptoBulkAll r
def uptoBulkEntries {H : Type} : List (Lit × DataW H) → Nat
  | [] => 0
  | x :: r => uptoBulkEntry x + uptoBulkEntries r
def uptoBulkEntry {H : Type} : Lit × DataW H → Nat
  | (.string bytes, d) => bytes.length + uptoBulk d + 1
  | (_, d) => uptoBulk d + 1
 end
def uptoSmall : (H : Type) → List (DataW H) → Bool := fun _ ds => decide (uptoBulkAll ds ≤ 1048576)
def OpenSpec.upto (s : _root_.Go.ChangeSpec) : _root_.Go.OpenSpec := { _root_.Go.OpenSpec.ofChange s with cond := some uptoSmall }

/-- 'gazetteerlaw23.TourGoes', WHERE WHAT IT READS IS OF BULK AT MOST 1048576: true; the input reads as it did. -/
def tourGoesUptoRow : OpenClaim := { program := "ytmjnmnhpmbbmgaa", sum := "178b6c617154df1e093240372f1c83b422b8bdbe7c3240cde5d6e4e3e8d8ae3d", func := "gazetteer/gazetteerlaw23.TourGoes", spec := "tourGoes", apart := false, narrowed := true }
def TourGoesUptoSaid : Prop := tourGoesUptoRow.holds Try.pinned (OpenSpec.upto tourGoesSpec)

/-- 'gazetteerlaw23.TourTakes', WHERE WHAT IT READS IS OF BULK AT MOST 1048576: true; the input reads as it did. -/
def tourTakesUptoRow : OpenClaim := { program := "ytmjnmnhpmbbmgaa", sum := "178b6c617154df1e093240372f1c83b422b8bdbe7c3240cde5d6e4e3e8d8ae3d", func := "gazetteer/gazetteerlaw23.TourTakes", spec := "tourTakes", apart := false, narrowed := true }
def TourTakesUptoSaid : Prop := tourTakesUptoRow.holds Try.pinned (OpenSpec.upto tourTakesSpec)

/-- 'gazetteerlaw23.TourKnown', WHERE WHAT IT READS IS OF BULK AT MOST 1048576: true; the input reads as it did. -/
def tourKnownUptoRow : OpenClaim := { program := "ytmjnmnhpmbbmgaa", sum := "178b6c617154df1e093240372f1c83b422b8bdbe7c3240cde5d6e4e3e8d8ae3d", func := "gazetteer/gazetteerlaw23.TourKnown", spec := "tourKnown", apart := false, narrowed := true }
def TourKnownUptoSaid : Prop := tourKnownUptoRow.holds Try.pinned (OpenSpec.upto tourKnownSpec)

/-- 'gazetteerlaw23.TourLimits', WHERE WHAT IT READS IS OF BULK AT MOST 1048576: true; the input reads as it did. -/
def tourLimitsUptoRow : OpenClaim := { program := "ytmjnmnhpmbbmgaa", sum := "178b6c617154df1e093240372f1c83b422b8bdbe7c3240cde5d6e4e3e8d8ae3d", func := "gazetteer/gazetteerlaw23.TourLimits", spec := "tourLimits", apart := false, narrowed := true }
def TourLimitsUptoSaid : Prop := tourLimitsUptoRow.holds Try.pinned (OpenSpec.upto tourLimitsSpec)

/-- 'gazetteerlaw23.TourSpans', WHERE WHAT IT READS IS OF BULK AT MOST 1048576: true; the input reads as it did. -/
def tourSpansUptoRow : OpenClaim := { program := "ytmjnmnhpmbbmgaa", sum := "178b6c617154df1e093240372f1c83b422b8bdbe7c3240cde5d6e4e3e8d8ae3d", func := "gazetteer/gazetteerlaw23.TourSpans", spec := "tourSpans", apart := false, narrowed := true }
def TourSpansUptoSaid : Prop := tourSpansUptoRow.holds Try.pinned (OpenSpec.upto tourSpansSpec)

/-- 'gazetteerlaw9.ParcelApart', WHERE WHAT IT READS IS OF BULK AT MOST 1048576: true; the input reads as it did. -/
def parcelApartUptoRow : OpenClaim := { program := "ytmjnmnhpmbbmgaa", sum := "178b6c617154df1e093240372f1c83b422b8bdbe7c3240cde5d6e4e3e8d8ae3d", func := "gazetteer/gazetteerlaw9.ParcelApart", spec := "parcelApart", apart := false, narrowed := true }
def ParcelApartUptoSaid : Prop := parcelApartUptoRow.holds Try.pinned (OpenSpec.upto parcelApartSpec)

end Rows
end Go.Proofs.Ytmjnmnhpmbbmgaa
