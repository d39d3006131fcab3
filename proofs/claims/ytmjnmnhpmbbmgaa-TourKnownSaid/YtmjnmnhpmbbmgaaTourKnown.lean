/- The law gazetteerlaw23.TourKnown, which takes no argument, returns true: by a run of an abstract machine that the kernel does (K1 to K20 show that such a run is one of the program's, in any heap and by any order of evaluation). No condition. -/
import Derived.Test.YtmjnmnhpmbbmgaaRows
import Derived.Test.YtmjnmnhpmbbmgaaK22
namespace Go.Proofs.Ytmjnmnhpmbbmgaa.tourKnown
open Go.ChangeShapes Go.WideShapes Go.ChangeAt Go.RowKit Go.Gz
set_option linter.unusedVariables false
theorem own : ownKnob Try.prog.godebug = none := by kernel_rfl
theorem laidOut : laidOutB Try.prog = true := by kernel_rfl
theorem run : bF (cFn Try.prog) 100 50 5 [] [] isYes = true := by kernel_rfl
theorem comes (y : Unit) (_ : True) : Tri Try.prog 5 [] [] Yes := (Tri.run 100 50 isYes run).mono fun _ _ h => isYes_ok h
set_option maxRecDepth 100000 in
theorem lifted (os : Os) (started : os.Started) (H : Type) (enc : TypeId × Value → H) :
    ReturnsInHanded {} Try.checked os 5 .any (Rows.tourKnownSpec.pre6 enc Try.prog Try.f5 Rows.tourKnownRow.domain false) (Rows.tourKnownSpec.post enc Try.prog Try.f5 false true false false) := by
  refine returnsInHanded_of_change (C := Try.checked) own started (by kernel_rfl) Try.func5
    (ChangeSpec.witness6 (enc := enc) (C := Try.checked) false ⟨#[], #[], []⟩ 8 (by kernel_rfl) (by kernel_rfl) (by kernel_rfl) (by kernel_rfl)) ?_
  intro W base args ds gs before hval hW _ _
  refine calls_post (avs := fun _ : Unit => []) (oks := fun _ => True) laidOut ?_ (by kernel_rfl) (tb := 4) (by kernel_rfl) rfl ?_ ?_ comes hval hW
  · have : Try.f5.params.toList = [] := by kernel_rfl
    rw [this]; intro t ht; cases ht
  · intro ds h
    have : Try.f5.params.toList = [] := by kernel_rfl
    rw [this] at h
    cases ds with
    | nil => rfl
    | cons => cases h
  · have : Try.f5.params.toList = [] := by kernel_rfl
    rw [this]; exact .nil
end Go.Proofs.Ytmjnmnhpmbbmgaa.tourKnown
namespace Go.Proofs.Ytmjnmnhpmbbmgaa
open Go.ChangeShapes Go.WideShapes Go.ChangeAt Go.RowKit
theorem tourKnown_holds : Rows.TourKnownSaid :=
  OpenClaim.holds_of_wide 5 Try.f5 rfl rfl rfl rfl rfl rfl rfl ⟨rfl, rfl, rfl, rfl, rfl⟩ rfl rfl rfl rfl rfl (by kernel_rfl) Try.func5 (by kernel_rfl)
    (of_decide_eq_true (by kernel_rfl)) (by unfold Func.isWrapper; first | (rw [if_pos (by decide +kernel)]; kernel_rfl) | (rw [if_neg (by decide +kernel)]; exact ⟨rfl, rfl⟩))
    (fun os started H enc _ => tourKnown.lifted os started H enc)
end Go.Proofs.Ytmjnmnhpmbbmgaa
