/-
  No cell of these rows narrows 'for every input' (looked for: loops, veiled, ifaces, maps, wideKeys, modest, calm, conditions, laid).
  DERIVED. THE GIVEN ROWS OF THIS SEAT. 3 by the template 'for every input the law returns true; each argument reads behind the call as it read before'; 0 by the template 'total and deterministic' (their statements: YtmjnmnhpmbbmgabTotals.lean).
  GIVEN WITH THE SEED: the statements are not yours to turn. If you find one false, say at which input.
  Laid BY PROGRAM, IN A SANDBOX (cutbox-rows.mjs): the forced cells as the released guide's own fill.sh prints them over the translation 23da364d48746990… (all of the seat's roots in one cut). By AI agents, Wed Nov 11 2026. No macro, syntax, notation, axiom, sorry.
-/
import Derived.Test.YtmjnmnhpmbbmgabChecked
import GoSem.Claim
import GoSem.ClaimJoined
import GoSem.ClaimMapViews
import Derived.JoinedTies
import Derived.KernelRfl
namespace Go.Proofs.Ytmjnmnhpmbbmgab
/- THE CELL 'sum', in the pinned program and in every row, IS THE sha256 OF THE DUMP (.gsa) THAT YtmjnmnhpmbbmgabProg.lean LOADS. Nothing in Lean hashes anything: it is a label: what it is worth is what the hold of that sum in a sandbox is worth. -/
noncomputable def Try.pinned : Pinned := { name := "ytmjnmnhpmbbmgab", sum := "23da364d4874699052e58edc0d290d1048b201c0fee37ffd1718424317b3418f", checked := Try.checked }
namespace Rows
def none {H : Type} : Left H := { results := [], args := [] }

/-- 'gazetteerlaw9.ParcelLists': WHATEVER THE INPUT: true; the input reads as it did. -/
def parcelListsSpec : ChangeSpec := { name := "parcelLists", fn := fun _ => fun
  | [d1, d2] => { results := [.lit (.bool true)], args := [d1, d2] }
  | _ => none }
def parcelListsRow : OpenClaim := { program := "ytmjnmnhpmbbmgab", sum := "23da364d4874699052e58edc0d290d1048b201c0fee37ffd1718424317b3418f", func := "gazetteer/gazetteerlaw9.ParcelLists", spec := "parcelLists", unfollowed := true, recurses := true, apart := false }
def ParcelListsSaid : Prop := parcelListsRow.holds Try.pinned (OpenSpec.ofChange parcelListsSpec)

/-- ITS FALSE NEIGHBOUR: 'it returns false'. Refute it at one input. -/
def parcelListsWrong : ChangeSpec := { name := "parcelLists", fn := fun _ => fun
  | [d1, d2] => { results := [.lit (.bool false)], args := [d1, d2] }
  | _ => none }
def ParcelListsWrongFalsely : Prop := parcelListsRow.holds Try.pinned (OpenSpec.ofChange parcelListsWrong)

/-- 'gazetteerlaw9.ParcelCuts': WHATEVER THE INPUT: true; the input reads as it did. -/
def parcelCutsSpec : ChangeSpec := { name := "parcelCuts", fn := fun _ => fun
  | [d1, d2, d3] => { results := [.lit (.bool true)], args := [d1, d2, d3] }
  | _ => none }
def parcelCutsRow : OpenClaim := { program := "ytmjnmnhpmbbmgab", sum := "23da364d4874699052e58edc0d290d1048b201c0fee37ffd1718424317b3418f", func := "gazetteer/gazetteerlaw9.ParcelCuts", spec := "parcelCuts", apart := false }
def ParcelCutsSaid : Prop := parcelCutsRow.holds Try.pinned (OpenSpec.ofChange parcelCutsSpec)

/-- ITS FALSE NEIGHBOUR: 'it returns false'. Refute it at one input. -/
def parcelCutsWrong : ChangeSpec := { name := "parcelCuts", fn := fun _ => fun
  | [d1, d2, d3] => { results := [.lit (.bool false)], args := [d1, d2, d3] }
  | _ => none }
def ParcelCutsWrongFalsely : Prop := parcelCutsRow.holds Try.pinned (OpenSpec.ofChange parcelCutsWrong)

/-- 'gazetteerlaw11.JournalKnown': WHATEVER THE INPUT: true; the input reads as it did. -/
def journalKnownSpec : ChangeSpec := { name := "journalKnown", fn := fun _ => fun
  | [] => { results := [.lit (.bool true)], args := [] }
  | _ => none }
def journalKnownRow : OpenClaim := { program := "ytmjnmnhpmbbmgab", sum := "23da364d4874699052e58edc0d290d1048b201c0fee37ffd1718424317b3418f", func := "gazetteer/gazetteerlaw11.JournalKnown", spec := "journalKnown", unfollowed := true, recurses := true, apart := false }
def JournalKnownSaid : Prop := journalKnownRow.holds Try.pinned (OpenSpec.ofChange journalKnownSpec)

/-- ITS FALSE NEIGHBOUR: 'it returns false'. Refute it at one input. -/
def journalKnownWrong : ChangeSpec := { name := "journalKnown", fn := fun _ => fun
  | [] => { results := [.lit (.bool false)], args := [] }
  | _ => none }
def JournalKnownWrongFalsely : Prop := journalKnownRow.holds Try.pinned (OpenSpec.ofChange journalKnownWrong)

/- THE SECOND FORM. 'bulk': how many values and letters a reading holds, each counted each time it is reached (what is shared counts as often as it is met; a slice's spare places count too). A statement '..UptoSaid' is the law's where the arguments, and the package variables that the reading takes, are together of bulk at most 1048576: NARROWER than '..Said'. Prove '..Said' where nothing that the law and all that it calls make is longer than what came in: it says more and counts as full. Else prove '..UptoSaid'. A law counts once. -/
mutual
def uptoBulk {H : Type} : DataW H → Nat
  | .lit (.string bytes) => bytes.length + 1
  | .lit _ => 1
  | .nil => 1
  | .ptr d => uptoBulk d + 1
  | .slice elems spare => uptoBulkAll elems + uptoBulkAll spare + 1
  | .agg parts => uptoBulkAll parts + 1
  | .iface _ d => uptoBulk d + 1
  | .map entries => uptoBulkEntries entries + 1
  | .held _ => 1
def uptoBulkAll {H : Type} : List (DataW H) → Nat
  | [] => 0
  | d :: r => uptoBulk d + uptoBulkAll r
def uptoBulkEntries {H : Type} : List (Lit × DataW H) → Nat
  | [] => 0
  | x :: r => uptoBulkEntry x + uptoBulkEntries r
def uptoBulkEntry {H : Type} : Lit × DataW H → Nat
  | (.string bytes, d) => bytes.length + uptoBulk d + 1
  | (_, d) => uptoBulk d + 1
 end
def uptoSmall : (H : Type) → List (DataW H) → Bool := fun _ ds => decide (uptoBulkAll ds ≤ 1048576)
def OpenSpec.upto (s : _root_.Go.ChangeSpec) : _root_.Go.OpenSpec := { _root_.Go.OpenSpec.ofChange s with cond := some uptoSmall }

/-- 'gazetteerlaw9.ParcelLists', WHERE WHAT IT READS IS OF BULK AT MOST 1048576: true; the input reads as it did. -/
def parcelListsUptoRow : OpenClaim := { program := "ytmjnmnhpmbbmgab", sum := "23da364d4874699052e58edc0d290d1048b201c0fee37ffd1718424317b3418f", func := "gazetteer/gazetteerlaw9.ParcelLists", spec := "parcelLists", unfollowed := true, recurses := true, apart := false, narrowed := true }
def ParcelListsUptoSaid : Prop := parcelListsUptoRow.holds Try.pinned (OpenSpec.upto parcelListsSpec)

/-- 'gazetteerlaw9.ParcelCuts', WHERE WHAT IT READS IS OF BULK AT MOST 1048576: true; the input reads as it did. -/
def parcelCutsUptoRow : OpenClaim := { program := "ytmjnmnhpmbbmgab", sum := "23da364d4874699052e58edc0d290d1048b201c0fee37ffd1718424317b3418f", func := "gazetteer/gazetteerlaw9.ParcelCuts", spec := "parcelCuts", apart := false, narrowed := true }
def ParcelCutsUptoSaid : Prop := parcelCutsUptoRow.holds Try.pinned (OpenSpec.upto parcelCutsSpec)

/-- 'gazetteerlaw11.JournalKnown', WHERE WHAT IT READS IS OF BULK AT MOST 1048576: true; the input reads as it did. -/
def journalKnownUptoRow : OpenClaim := { program := "ytmjnmnhpmbbmgab", sum := "23da364d4874699052e58edc0d290d1048b201c0fee37ffd1718424317b3418f", func := "gazetteer/gazetteerlaw11.JournalKnown", spec := "journalKnown", unfollowed := true, recurses := true, apart := false, narrowed := true }
def JournalKnownUptoSaid : Prop := journalKnownUptoRow.holds Try.pinned (OpenSpec.upto journalKnownSpec)

end Rows
end Go.Proofs.Ytmjnmnhpmbbmgab
