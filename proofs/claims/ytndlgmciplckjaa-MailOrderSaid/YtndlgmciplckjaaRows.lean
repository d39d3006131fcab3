/-
  No cell of these rows narrows 'for every input' (looked for: loops, veiled, ifaces, maps, wideKeys, modest, calm, conditions, laid).
  DERIVED. THE GIVEN ROWS OF THIS SEAT. 6 by the template 'for every input the law returns true; each argument reads behind the call as it read before'; 0 by the template 'total and deterministic' (their statements: YtndlgmciplckjaaTotals.lean).
  GIVEN WITH THE SEED: the statements are not yours to turn. If you find one false, say at which input.
  Laid BY PROGRAM, IN A SANDBOX (cutbox-rows.mjs): the forced cells as the released guide's own fill.sh prints them over the translation 3fd328d1d823db5a… (all of the seat's roots in one cut). By AI agents, Wed Nov 11 2026. No macro, syntax, notation, axiom, sorry.
-/
import Derived.Test.YtndlgmciplckjaaChecked
import GoSem.Claim
import GoSem.ClaimJoined
import GoSem.ClaimMapViews
import Derived.JoinedTies
import Derived.KernelRfl
namespace Go.Proofs.Ytndlgmciplckjaa
/- THE CELL 'sum', in the pinned program and in every row, IS THE sha256 OF THE DUMP (.gsa) THAT YtndlgmciplckjaaProg.lean LOADS. Nothing in Lean hashes anything: it is a label: what it is worth is what the hold of that sum in a sandbox is worth. -/
noncomputable def Try.pinned : Pinned := { name := "ytndlgmciplckjaa", sum := "3fd328d1d823db5a347261c37e5dbae0c04d2366be4f20d485535e051ba2e717", checked := Try.checked }
namespace Rows
def none {H : Type} : Left H := { results := [], args := [] }

/-- 'gazetteerlaw16.NoteReads': WHATEVER THE INPUT: true; the input reads as it did. -/
def noteReadsSpec : ChangeSpec := { name := "noteReads", fn := fun _ => fun
  | [d1, d2] => { results := [.lit (.bool true)], args := [d1, d2] }
  | _ => none }
def noteReadsRow : OpenClaim := { program := "ytndlgmciplckjaa", sum := "3fd328d1d823db5a347261c37e5dbae0c04d2366be4f20d485535e051ba2e717", func := "gazetteer/gazetteerlaw16.NoteReads", spec := "noteReads", unfollowed := true, recurses := true, apart := false }
def NoteReadsSaid : Prop := noteReadsRow.holds Try.pinned (OpenSpec.ofChange noteReadsSpec)

/-- ITS FALSE NEIGHBOUR: 'it returns false'. Refute it at one input. -/
def noteReadsWrong : ChangeSpec := { name := "noteReads", fn := fun _ => fun
  | [d1, d2] => { results := [.lit (.bool false)], args := [d1, d2] }
  | _ => none }
def NoteReadsWrongFalsely : Prop := noteReadsRow.holds Try.pinned (OpenSpec.ofChange noteReadsWrong)

/-- 'gazetteerlaw16.NoteKnown': WHATEVER THE INPUT: true; the input reads as it did. -/
def noteKnownSpec : ChangeSpec := { name := "noteKnown", fn := fun _ => fun
  | [] => { results := [.lit (.bool true)], args := [] }
  | _ => none }
def noteKnownRow : OpenClaim := { program := "ytndlgmciplckjaa", sum := "3fd328d1d823db5a347261c37e5dbae0c04d2366be4f20d485535e051ba2e717", func := "gazetteer/gazetteerlaw16.NoteKnown", spec := "noteKnown", unfollowed := true, recurses := true, apart := false }
def NoteKnownSaid : Prop := noteKnownRow.holds Try.pinned (OpenSpec.ofChange noteKnownSpec)

/-- ITS FALSE NEIGHBOUR: 'it returns false'. Refute it at one input. -/
def noteKnownWrong : ChangeSpec := { name := "noteKnown", fn := fun _ => fun
  | [] => { results := [.lit (.bool false)], args := [] }
  | _ => none }
def NoteKnownWrongFalsely : Prop := noteKnownRow.holds Try.pinned (OpenSpec.ofChange noteKnownWrong)

/-- 'gazetteerlaw16.NoteApart': WHATEVER THE INPUT: true; the input reads as it did. -/
def noteApartSpec : ChangeSpec := { name := "noteApart", fn := fun _ => fun
  | [d1, d2] => { results := [.lit (.bool true)], args := [d1, d2] }
  | _ => none }
def noteApartRow : OpenClaim := { program := "ytndlgmciplckjaa", sum := "3fd328d1d823db5a347261c37e5dbae0c04d2366be4f20d485535e051ba2e717", func := "gazetteer/gazetteerlaw16.NoteApart", spec := "noteApart", unfollowed := true, recurses := true, apart := false }
def NoteApartSaid : Prop := noteApartRow.holds Try.pinned (OpenSpec.ofChange noteApartSpec)

/-- ITS FALSE NEIGHBOUR: 'it returns false'. Refute it at one input. -/
def noteApartWrong : ChangeSpec := { name := "noteApart", fn := fun _ => fun
  | [d1, d2] => { results := [.lit (.bool false)], args := [d1, d2] }
  | _ => none }
def NoteApartWrongFalsely : Prop := noteApartRow.holds Try.pinned (OpenSpec.ofChange noteApartWrong)

/-- 'gazetteerlaw16.NoteKinds': WHATEVER THE INPUT: true; the input reads as it did. -/
def noteKindsSpec : ChangeSpec := { name := "noteKinds", fn := fun _ => fun
  | [d1, d2] => { results := [.lit (.bool true)], args := [d1, d2] }
  | _ => none }
def noteKindsRow : OpenClaim := { program := "ytndlgmciplckjaa", sum := "3fd328d1d823db5a347261c37e5dbae0c04d2366be4f20d485535e051ba2e717", func := "gazetteer/gazetteerlaw16.NoteKinds", spec := "noteKinds", unfollowed := true, recurses := true, apart := false }
def NoteKindsSaid : Prop := noteKindsRow.holds Try.pinned (OpenSpec.ofChange noteKindsSpec)

/-- ITS FALSE NEIGHBOUR: 'it returns false'. Refute it at one input. -/
def noteKindsWrong : ChangeSpec := { name := "noteKinds", fn := fun _ => fun
  | [d1, d2] => { results := [.lit (.bool false)], args := [d1, d2] }
  | _ => none }
def NoteKindsWrongFalsely : Prop := noteKindsRow.holds Try.pinned (OpenSpec.ofChange noteKindsWrong)

/-- 'gazetteerlaw20.MailFull': WHATEVER THE INPUT: true; the input reads as it did. -/
def mailFullSpec : ChangeSpec := { name := "mailFull", fn := fun _ => fun
  | [d] => { results := [.lit (.bool true)], args := [d] }
  | _ => none }
def mailFullRow : OpenClaim := { program := "ytndlgmciplckjaa", sum := "3fd328d1d823db5a347261c37e5dbae0c04d2366be4f20d485535e051ba2e717", func := "gazetteer/gazetteerlaw20.MailFull", spec := "mailFull", unfollowed := true, recurses := true, apart := false }
def MailFullSaid : Prop := mailFullRow.holds Try.pinned (OpenSpec.ofChange mailFullSpec)

/-- ITS FALSE NEIGHBOUR: 'it returns false'. Refute it at one input. -/
def mailFullWrong : ChangeSpec := { name := "mailFull", fn := fun _ => fun
  | [d] => { results := [.lit (.bool false)], args := [d] }
  | _ => none }
def MailFullWrongFalsely : Prop := mailFullRow.holds Try.pinned (OpenSpec.ofChange mailFullWrong)

/-- 'gazetteerlaw20.MailOrder': WHATEVER THE INPUT: true; the input reads as it did. -/
def mailOrderSpec : ChangeSpec := { name := "mailOrder", fn := fun _ => fun
  | [d] => { results := [.lit (.bool true)], args := [d] }
  | _ => none }
def mailOrderRow : OpenClaim := { program := "ytndlgmciplckjaa", sum := "3fd328d1d823db5a347261c37e5dbae0c04d2366be4f20d485535e051ba2e717", func := "gazetteer/gazetteerlaw20.MailOrder", spec := "mailOrder", unfollowed := true, recurses := true, apart := false }
def MailOrderSaid : Prop := mailOrderRow.holds Try.pinned (OpenSpec.ofChange mailOrderSpec)

/-- ITS FALSE NEIGHBOUR: 'it returns false'. Refute it at one input. -/
def mailOrderWrong : ChangeSpec := { name := "mailOrder", fn := fun _ => fun
  | [d] => { results := [.lit (.bool false)], args := [d] }
  | _ => none }
def MailOrderWrongFalsely : Prop := mailOrderRow.holds Try.pinned (OpenSpec.ofChange mailOrderWrong)

/- THE SECOND FORM. 'bulk': how many values and letters a reading holds, each counted each time it is reached (what is shared counts as often as it is met; a slice's spare places count too). A statement '..UptoSaid' is the law's where the arguments, and the package variables that the reading takes, are together of bulk at most 1048576: NARROWER than '..Said'. Prove '..Said' where nothing that the law and all that it calls make is longer than what came in: it says more and counts as full. Else prove '..UptoSaid'. A law counts once. -/
mutual
def uptoBulk {H : Type} : DataW H → Nat
  | .lit (.string bytes) => bytes.length + 1
  | .lit _ => 1
  | .nil => 1
  | .ptr d => uptoBulk d + 1
  | .slice elems spare => uptoBulkAll elems + uptoBulkAll spare + 1
  | .agg parts => uptoBulkAll parts + 1
  | .iface _ d => uptoBulk d + 1
  | .map entries => uptoBulkEntries entries + 1
  | .held _ => 1
def uptoBulkAll {H : Type} : List (DataW H) → Nat
  | [] => 0
  | d :: r => uptoBulk d + uptoBulkAll r
def uptoBulkEntries {H : Type} : List (Lit × DataW H) → Nat
  | [] => 0
  | x :: r => uptoBulkEntry x + uptoBulkEntries r
def uptoBulkEntry {H : Type} : Lit × DataW H → Nat
  | (.string bytes, d) => bytes.length + uptoBulk d + 1
  | (_, d) => uptoBulk d + 1
 end
def uptoSmall : (H : Type) → List (DataW H) → Bool := fun _ ds => decide (uptoBulkAll ds ≤ 1048576)
def OpenSpec.upto (s : _root_.Go.ChangeSpec) : _root_.Go.OpenSpec := { _root_.Go.OpenSpec.ofChange s with cond := some uptoSmall }

/-- 'gazetteerlaw16.NoteReads', WHERE WHAT IT READS IS OF BULK AT MOST 1048576: true; the input reads as it did. -/
def noteReadsUptoRow : OpenClaim := { program := "ytndlgmciplckjaa", sum := "3fd328d1d823db5a347261c37e5dbae0c04d2366be4f20d485535e051ba2e717", func := "gazetteer/gazetteerlaw16.NoteReads", spec := "noteReads", unfollowed := true, recurses := true, apart := false, narrowed := true }
def NoteReadsUptoSaid : Prop := noteReadsUptoRow.holds Try.pinned (OpenSpec.upto noteReadsSpec)

/-- 'gazetteerlaw16.NoteKnown', WHERE WHAT IT READS IS OF BULK AT MOST 1048576: true; the input reads as it did. -/
def noteKnownUptoRow : OpenClaim := { program := "ytndlgmciplckjaa", sum := "3fd328d1d823db5a347261c37e5dbae0c04d2366be4f20d485535e051ba2e717", func := "gazetteer/gazetteerlaw16.NoteKnown", spec := "noteKnown", unfollowed := true, recurses := true, apart := false, narrowed := true }
def NoteKnownUptoSaid : Prop := noteKnownUptoRow.holds Try.pinned (OpenSpec.upto noteKnownSpec)

/-- 'gazetteerlaw16.NoteApart', WHERE WHAT IT READS IS OF BULK AT MOST 1048576: true; the input reads as it did. -/
def noteApartUptoRow : OpenClaim := { program := "ytndlgmciplckjaa", sum := "3fd328d1d823db5a347261c37e5dbae0c04d2366be4f20d485535e051ba2e717", func := "gazetteer/gazetteerlaw16.NoteApart", spec := "noteApart", unfollowed := true, recurses := true, apart := false, narrowed := true }
def NoteApartUptoSaid : Prop := noteApartUptoRow.holds Try.pinned (OpenSpec.upto noteApartSpec)

/-- 'gazetteerlaw16.NoteKinds', WHERE WHAT IT READS IS OF BULK AT MOST 1048576: true; the input reads as it did. -/
def noteKindsUptoRow : OpenClaim := { program := "ytndlgmciplckjaa", sum := "3fd328d1d823db5a347261c37e5dbae0c04d2366be4f20d485535e051ba2e717", func := "gazetteer/gazetteerlaw16.NoteKinds", spec := "noteKinds", unfollowed := true, recurses := true, apart := false, narrowed := true }
def NoteKindsUptoSaid : Prop := noteKindsUptoRow.holds Try.pinned (OpenSpec.upto noteKindsSpec)

/-- 'gazetteerlaw20.MailFull', WHERE WHAT IT READS IS OF BULK AT MOST 1048576: true; the input reads as it did. -/
def mailFullUptoRow : OpenClaim := { program := "ytndlgmciplckjaa", sum := "3fd328d1d823db5a347261c37e5dbae0c04d2366be4f20d485535e051ba2e717", func := "gazetteer/gazetteerlaw20.MailFull", spec := "mailFull", unfollowed := true, recurses := true, apart := false, narrowed := true }
def MailFullUptoSaid : Prop := mailFullUptoRow.holds Try.pinned (OpenSpec.upto mailFullSpec)

/-- 'gazetteerlaw20.MailOrder', WHERE WHAT IT READS IS OF BULK AT MOST 1048576: true; the input reads as it did. -/
def mailOrderUptoRow : OpenClaim := { program := "ytndlgmciplckjaa", sum := "3fd328d1d823db5a347261c37e5dbae0c04d2366be4f20d485535e051ba2e717", func := "gazetteer/gazetteerlaw20.MailOrder", spec := "mailOrder", unfollowed := true, recurses := true, apart := false, narrowed := true }
def MailOrderUptoSaid : Prop := mailOrderUptoRow.holds Try.pinned (OpenSpec.upto mailOrderSpec)

end Rows
end Go.Proofs.Ytndlgmciplckjaa
