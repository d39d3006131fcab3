/- The law gazetteerlaw11.JournalKnown, which takes no argument, returns true: up to its last deed by a run of an abstract machine that the kernel does (K1 to K36 show that such a run is one of the program's, in any heap and by any order of evaluation), the last deed by a walk. No condition. -/
import Derived.Test.YtmjnmnhpmbbmgabJTail
set_option linter.unusedVariables false
set_option linter.unusedSimpArgs false
namespace Go.Proofs.Ytmjnmnhpmbbmgab.journal
open Go.ChangeShapes Go.WideShapes Go.ChangeAt Go.RowKit Go.Gz Go.Proofs.Ytmjnmnhpmbbmgab.note
theorem own : ownKnob Try.prog.godebug = none := by kernel_rfl
theorem laidOut : laidOutB Try.prog = true := by kernel_rfl
theorem rest5 : (cFn Try.prog 5).map (fun m => (m.results, toS (restS 15 m.body))) = some ([.t 0], b5_26) := by kernel_rfl
theorem comes (y : Unit) (_ : True) : Tri Try.prog 5 [] [] Yes := Tri.head 1000 50 15 endQ headRun rest5 J5_sound rest26
set_option maxRecDepth 100000 in
theorem lifted (os : Os) (started : os.Started) (H : Type) (enc : TypeId × Value → H) :
    ReturnsInHanded {} Try.checked os 5 .any (Rows.journalKnownSpec.pre6 enc Try.prog Try.f5 Rows.journalKnownRow.domain false) (Rows.journalKnownSpec.post enc Try.prog Try.f5 false true false false) := by
  refine returnsInHanded_of_change_sized (C := Try.checked) own started (by kernel_rfl) Try.func5
    (ChangeSpec.witness6 (enc := enc) (C := Try.checked) false ⟨#[], #[], []⟩ 8 (by kernel_rfl) (by kernel_rfl) (by kernel_rfl) (by kernel_rfl)) ?_
  intro W base args0 ds gs before hval hW _ hz _
  refine calls_post (avs := fun _ : Unit => []) (oks := fun _ => True) laidOut ?_ (by kernel_rfl) (tb := 4) (by kernel_rfl) rfl ?_ ?_ comes hval hW hz
  · have : Try.f5.params.toList = [] := by kernel_rfl
    rw [this]; intro t ht; cases ht
  · intro ds h
    have : Try.f5.params.toList = [] := by kernel_rfl
    rw [this] at h
    cases ds with
    | nil => rfl
    | cons => cases h
  · have : Try.f5.params.toList = [] := by kernel_rfl
    rw [this]; exact .nil
end Go.Proofs.Ytmjnmnhpmbbmgab.journal
namespace Go.Proofs.Ytmjnmnhpmbbmgab
open Go.ChangeShapes Go.WideShapes Go.ChangeAt Go.RowKit
theorem journalKnown_holds : Rows.JournalKnownSaid :=
  OpenClaim.holds_of_wide 5 Try.f5 rfl rfl rfl rfl rfl rfl rfl ⟨rfl, rfl, rfl, rfl, rfl⟩ rfl rfl rfl rfl rfl (by kernel_rfl) Try.func5 (by kernel_rfl)
    (of_decide_eq_true (by kernel_rfl)) (by unfold Func.isWrapper; first | (rw [if_pos (by decide +kernel)]; kernel_rfl) | (rw [if_neg (by decide +kernel)]; exact ⟨rfl, rfl⟩))
    (fun os started H enc _ => journal.lifted os started H enc)
end Go.Proofs.Ytmjnmnhpmbbmgab
